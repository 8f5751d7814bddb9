/- Chapter 4: the reference's CommonStep. -/
import Derived.Test.YtfiioadmpjmmgaaDoorX41
import Derived.Test.YtfiioadmpjmmgaaDoorX31
namespace Go.Proofs.YtfiioadmpjmmgaaDoor
set_option linter.unusedVariables false
set_option linter.unusedSimpArgs false
open Go.RowKit Ntt
theorem count_take (l : List Int) (x : Int) {j : Nat} (hj : j < l.length) : (l.take (j + 1)).count x = (l.take j).count x + (if intAt l j = x then 1 else 0) := by
  rw [List.take_add_one, List.count_append]
  have : l[j]? = some (intAt l j) := by unfold intAt; simp [hj]
  rw [this]
  simp [List.count_cons]
set_option maxRecDepth 20000 in
set_option maxHeartbeats 4000000 in
theorem rCommon (R C : Nat) (d : Bool) (zs : List Int) (v : Value) (w : World) (hm : MapOk R C zs) (hv : IntsV w v zs) {L : List Int} (hL : allS (zAt C (intAt zs)) R C d C R = L) :
    Calls Tryd.prog 31 #[.agg #[.int .i64 R, .int .i64 C, v], .bool d] w fun e w' => e = .returned (.tuple #[.int .i64 (foldB L L.length).1, .bool (decide (0 < (foldB L L.length).2))]) ∧ Below w.heap.size w w' := by
  have HSR := Lib.hid (show ∀ W, Below w.heap.size w W → _ from fun W hW => rSteps R C d zs v W hm (hv.below hW))
  have hll : L.length ≤ 5000 := by
    have h1 := allS_len (zAt C (intAt zs)) R C d C R
    have h3 : R * C ≤ 64 * 64 := Nat.mul_le_mul hm.r2 hm.c2
    rw [hL] at h1
    omega
  rw [hL] at HSR
  obtain ⟨-, a, cap, rfl, -⟩ := hv
  generalize zs.length = n0 at *
  clear hL hm
  go_enter Tryd.func31, Tryd.ntmps31
  go_wp2_with (first | (go_at_call 63; (with_reducible refine (HSR.out _ (by (repeat' (first | with_reducible exact Below.refl _ _ | (with_reducible refine below_later_of ?_ ?_ _) | (with_reducible refine Below.alloc ?_ ?_ _) | (with_reducible refine Below.setCell ?_ ?_ _) | (with_reducible refine Below.drew ?_) | (simp; done) | (simp; omega) | omega)))).mono ?_); rintro e w' ⟨u, rfl, hu, hb⟩; obtain ⟨-, a5, c5, rfl, h5⟩ := hu; have H5 := Lib.hid h5; clear h5; obtain ⟨p1, rfl⟩ := later_of_below hb; clear hb))
  refine any_worldF (fun W => Below w.heap.size w W ∧ (0 < L.length → ∃ b off, a5 = some ⟨b, off, none⟩ ∧ b < W.heap.size ∧ ∀ k, k < L.length → W.cell? ⟨b, off + k, none⟩ = some (.int .i64 (intAt L k)))) ⟨(by (repeat' (first | with_reducible exact Below.refl _ _ | (with_reducible refine below_later_of ?_ ?_ _) | (with_reducible refine Below.alloc ?_ ?_ _) | (with_reducible refine Below.setCell ?_ ?_ _) | (with_reducible refine Below.drew ?_) | (simp; done) | (simp; omega) | omega))), H5.out⟩ ?_
  rintro W1 ⟨hb1, h5⟩
  have HB1 := Lib.hid hb1
  have H6 := Lib.hid h5
  clear hb1 h5 H5
  obtain ⟨n, hn⟩ : ∃ n, L.length = n := ⟨_, rfl⟩
  have HN := Lib.hid hn
  rw [hn] at hll H6 ⊢
  go_loopw [7, 8, 9] (fun b m i wr => ∃ k : Nat, k ≤ n ∧ b = .int .i64 (foldB L k).1 ∧ m = .int .i64 (foldB L k).2 ∧ i = .int .i64 k ∧ Below W1.heap.size W1 wr) (fun _ _ i _ => n - (intOf i).toNat)
  case atStart => exact ⟨0, Nat.zero_le _, rfl, rfl, rfl, Below.refl _ _⟩
  case round =>
    obtain ⟨k, hk, rfl, rfl, rfl, hbz⟩ := hrel
    have HBZ := Lib.hid hbz
    clear hbz
    by_cases hlk : k < n
    · have hdk : decide ((k : Int) < (n : Int)) = true := by simp; omega
      have hdk2 : decide (k < n) = true := by simp; omega
      have hk0 : (0 : Int) ≤ (k : Int) := by omega
      have hk1 : (k : Int) < (n : Int) := by omega
      obtain ⟨b, off, rfl, hbw, hc⟩ := H6.out (by omega)
      have HC := Lib.hid hc
      have HFS := Lib.hid (foldB_succ L (k := k) (by rw [hn]; exact hlk))
      obtain ⟨x, hx⟩ : ∃ x, intAt L k = x := ⟨_, rfl⟩
      rw [hx] at HFS
      have hfb : (foldB L k).2 ≤ 5000 := by
        have h1 := (foldB_inv L k (by omega))
        rcases Nat.eq_zero_or_pos k with h | h
        · rw [h1.1 h]; simp
        · rw [(h1.2 h).2.1]
          have := List.count_le_length (a := (foldB L k).1) (l := L)
          omega
      generalize foldB L k = s at *
      obtain ⟨best, most⟩ := s
      dsimp only at hfb HFS
      clear hc hn
      go_wp2
      go_loopw [10, 11] (fun q j wz => ∃ j' : Nat, j' ≤ n ∧ q = .int .i64 ((L.take j').count x : Nat) ∧ j = .int .i64 j' ∧ Below W1.heap.size W1 wz) (fun _ j _ => n - (intOf j).toNat)
      case atStart => exact ⟨0, Nat.zero_le _, by simp, rfl, HBZ.out⟩
      case round =>
        obtain ⟨j, hj, rfl, rfl, hby⟩ := hrel
        have HBY := Lib.hid hby
        have ck := (hby.cell (p := ⟨b, off + k, none⟩) hbw).trans (HC.out k hlk)
        rw [hx] at ck
        have hbr : b < wr.heap.size := by have := hby.size; omega
        by_cases hlj : j < n
        · have hdj : decide ((j : Int) < (n : Int)) = true := by simp; omega
          have hdj2 : decide (j < n) = true := by simp; omega
          have hj0 : (0 : Int) ≤ (j : Int) := by omega
          have hj1 : (j : Int) < (n : Int) := by omega
          have cj := (hby.cell (p := ⟨b, off + j, none⟩) hbw).trans (HC.out j hlj)
          have HCT := Lib.hid (count_take L x (j := j) (by rw [HN.out]; exact hlj))
          have hcb : (L.take j).count x ≤ 5000 := by
            have := List.count_le_length (a := x) (l := L.take j)
            rw [List.length_take] at this
            omega
          generalize intAt L j = y at cj HCT
          generalize (L.take j).count x = cq at hcb HCT
          clear hby
          by_cases hy : y = x
          · have hyb : (y == x) = true := by simpa using hy
            have HCE := Lib.hid (show (L.take (j + 1)).count x = cq + 1 by rw [HCT.out, if_pos hy])
            clear HCT hy
            go_wp2
            refine wp_region_calm (by kernel_rfl) (by kernel_rfl) ?_
            repeat (go_big_quiet_step (fail))
            refine wpQuiet_nil ?_
            rintro _ ⟨pq, rfl⟩
            go_wp2
            go_roundw
            case rel => exact ⟨j + 1, by omega, by rw [HCE.out]; go_num, by go_num, HBY.out.trans (below_mono_of HBY.out.size (by (repeat' (first | with_reducible exact Below.refl _ _ | (with_reducible refine below_later_of ?_ ?_ _) | (with_reducible refine Below.alloc ?_ ?_ _) | (with_reducible refine Below.setCell ?_ ?_ _) | (with_reducible refine Below.drew ?_) | (simp; done) | (simp; omega) | omega))))⟩
            case measure => simp [intOf]; omega
          · have hyb : (y == x) = false := by simpa using hy
            have HCE := Lib.hid (show (L.take (j + 1)).count x = cq by rw [HCT.out, if_neg hy]; rfl)
            clear HCT hy
            go_wp2
            refine wp_region_calm (by kernel_rfl) (by kernel_rfl) ?_
            repeat (go_big_quiet_step (fail))
            refine wpQuiet_nil ?_
            rintro _ ⟨pq, rfl⟩
            go_wp2
            go_roundw
            case rel => exact ⟨j + 1, by omega, by rw [HCE.out], by go_num, HBY.out.trans (below_mono_of HBY.out.size (by (repeat' (first | with_reducible exact Below.refl _ _ | (with_reducible refine below_later_of ?_ ?_ _) | (with_reducible refine Below.alloc ?_ ?_ _) | (with_reducible refine Below.setCell ?_ ?_ _) | (with_reducible refine Below.drew ?_) | (simp; done) | (simp; omega) | omega))))⟩
            case measure => simp [intOf]; omega
        · obtain rfl : j = n := by omega
          have hdj : decide ((j : Int) < (j : Int)) = false := by simp
          have htk : L.take j = L := by rw [← HN.out]; exact List.take_length
          rw [htk]
          have hcb : L.count x ≤ 5000 := by
            have := List.count_le_length (a := x) (l := L)
            have := HN.out
            omega
          have HF2 := Lib.hid (show foldB L (k + 1) = if most < L.count x ∨ (L.count x = most ∧ x < best) then (x, L.count x) else (best, most) from HFS.out)
          clear hby htk HFS
          generalize L.count x = cx at *
          by_cases h1 : most < cx
          · have hA : decide ((most : Int) < (cx : Int)) = true := by simp; omega
            have hA2 : decide (most < cx) = true := by simp; omega
            have HF := Lib.hid (show foldB L (k + 1) = (x, cx) by rw [HF2.out, if_pos (.inl h1)])
            clear HF2 h1
            go_wp2
            go_roundw
            case rel => exact ⟨k + 1, by omega, by rw [HF.out], by rw [HF.out], by go_num, HBY.out.trans (below_mono_of HBY.out.size (by (repeat' (first | with_reducible exact Below.refl _ _ | (with_reducible refine below_later_of ?_ ?_ _) | (with_reducible refine Below.alloc ?_ ?_ _) | (with_reducible refine Below.setCell ?_ ?_ _) | (with_reducible refine Below.drew ?_) | (simp; done) | (simp; omega) | omega))))⟩
            case measure => simp [intOf]; omega
          · have hA : decide ((most : Int) < (cx : Int)) = false := by simp; omega
            have hA2 : decide (most < cx) = false := by simp; omega
            by_cases h2 : cx = most
            · subst h2
              have hE : ((cx : Int) == (cx : Int)) = true := by simp
              by_cases h3 : x < best
              · have hX : decide (x < best) = true := by simpa using h3
                have HF := Lib.hid (show foldB L (k + 1) = (x, cx) by rw [HF2.out, if_pos (.inr ⟨rfl, h3⟩)])
                clear HF2 h1 h3
                go_wp2
                go_roundw
                case rel => exact ⟨k + 1, by omega, by rw [HF.out], by rw [HF.out], by go_num, HBY.out.trans (below_mono_of HBY.out.size (by (repeat' (first | with_reducible exact Below.refl _ _ | (with_reducible refine below_later_of ?_ ?_ _) | (with_reducible refine Below.alloc ?_ ?_ _) | (with_reducible refine Below.setCell ?_ ?_ _) | (with_reducible refine Below.drew ?_) | (simp; done) | (simp; omega) | omega))))⟩
                case measure => simp [intOf]; omega
              · have hX : decide (x < best) = false := by simpa using h3
                have HF := Lib.hid (show foldB L (k + 1) = (best, cx) by rw [HF2.out, if_neg (by omega)])
                clear HF2 h1 h3
                go_wp2
                go_roundw
                case rel => exact ⟨k + 1, by omega, by rw [HF.out], by rw [HF.out], by go_num, HBY.out.trans (below_mono_of HBY.out.size (by (repeat' (first | with_reducible exact Below.refl _ _ | (with_reducible refine below_later_of ?_ ?_ _) | (with_reducible refine Below.alloc ?_ ?_ _) | (with_reducible refine Below.setCell ?_ ?_ _) | (with_reducible refine Below.drew ?_) | (simp; done) | (simp; omega) | omega))))⟩
                case measure => simp [intOf]; omega
            · have hE : ((cx : Int) == (most : Int)) = false := by simp; omega
              have hE2 : (cx == most) = false := by simp; omega
              have HF := Lib.hid (show foldB L (k + 1) = (best, most) by rw [HF2.out, if_neg (by omega)])
              clear HF2 h1 h2
              go_wp2
              go_roundw
              case rel => exact ⟨k + 1, by omega, by rw [HF.out], by rw [HF.out], by go_num, HBY.out.trans (below_mono_of HBY.out.size (by (repeat' (first | with_reducible exact Below.refl _ _ | (with_reducible refine below_later_of ?_ ?_ _) | (with_reducible refine Below.alloc ?_ ?_ _) | (with_reducible refine Below.setCell ?_ ?_ _) | (with_reducible refine Below.drew ?_) | (simp; done) | (simp; omega) | omega))))⟩
              case measure => simp [intOf]; omega
    · obtain rfl : k = n := by omega
      have hdk : decide ((k : Int) < (k : Int)) = false := by simp
      obtain ⟨best, most, hbm⟩ : ∃ b m, foldB L k = (b, m) := ⟨_, _, rfl⟩
      have HS := Lib.hid (show foldB L L.length = (best, most) by rw [HN.out]; exact hbm)
      rw [hbm]
      dsimp only
      clear hn hbm
      go_wp2
      go_ret2
      exact ⟨by rw [HS.out]; simp, HB1.out.trans (HBZ.out.mono HB1.out.size)⟩
end Go.Proofs.YtfiioadmpjmmgaaDoor
