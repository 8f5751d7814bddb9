/- Chapter 1's door seat: the law EchoTransforms returns true. -/
import Derived.Test.YtakohhlmomgegaaDoorQ10
import Derived.Test.YtakohhlmomgegaaDoorU72
import Derived.Test.YtakohhlmomgegaaDoorU75
namespace Go.Proofs.YtakohhlmomgegaaDoor
set_option linter.unusedVariables false
set_option linter.unusedSimpArgs false
open Go.RowKit Ntt
set_option maxRecDepth 20000 in
set_option maxHeartbeats 4000000 in
theorem transforms_any (zs : List Int) (v : Value) (w : World) (hv : IntsX w v zs) (ht : Tab w) : Calls Tryd.prog 6 #[v] w fun e w' => e = .returned (.bool true) ∧ Below w.heap.size w w' := by
  have HT := Lib.hid ht
  clear ht
  obtain ⟨n, hn⟩ : ∃ n, zs.length = n := ⟨_, rfl⟩
  by_cases h3 : 130 < n
  · obtain ⟨⟨a, cap, rfl, -⟩, -⟩ := hv
    rw [hn]
    have d1 : decide ((64 : Int) < (n : Int)) = true := by simp; omega
    have d2 : decide ((n : Int) ≤ 128) = false := by simp; omega
    have d3 : decide ((130 : Int) < (n : Int)) = true := by simp; omega
    clear hn h3
    go_enter Tryd.func6, Tryd.ntmps6
    go_wp2_with (first | (go_at_call 17; (with_reducible refine (awake_any _ (HT.out.below (by (repeat' (first | with_reducible exact Below.refl _ _ | (with_reducible refine below_later_of ?_ ?_ _) | (with_reducible refine Below.alloc ?_ ?_ _) | (with_reducible refine Below.setCell ?_ ?_ _) | (with_reducible refine Below.drew ?_) | (simp; done) | (simp; omega) | omega))))).mono ?_); rintro e w' ⟨rfl, hb⟩; obtain ⟨pp, rfl⟩ := later_of_below hb; clear hb))
    all_goals
      go_ret
      exact ⟨rfl, (by (repeat' (first | with_reducible exact Below.refl _ _ | (with_reducible refine below_later_of ?_ ?_ _) | (with_reducible refine Below.alloc ?_ ?_ _) | (with_reducible refine Below.setCell ?_ ?_ _) | (with_reducible refine Below.drew ?_) | (simp; done) | (simp; omega) | omega)))⟩
  · have hv := hv.ints (by omega)
    have HV := Lib.hid hv
    obtain ⟨-, a, cap, rfl, -⟩ := hv
    have d3 : decide ((130 : Int) < (n : Int)) = false := by simp; omega
    by_cases h1 : 64 < n ∧ n ≤ 128
    · rw [hn]
      have d1 : decide ((64 : Int) < (n : Int)) = true := by simp; omega
      have d2 : decide ((n : Int) ≤ 128) = true := by simp; omega
      clear hn h1 h3 HV
      go_enter Tryd.func6, Tryd.ntmps6
      go_wp2_with (first | (go_at_call 17; (with_reducible refine (awake_any _ (HT.out.below (by (repeat' (first | with_reducible exact Below.refl _ _ | (with_reducible refine below_later_of ?_ ?_ _) | (with_reducible refine Below.alloc ?_ ?_ _) | (with_reducible refine Below.setCell ?_ ?_ _) | (with_reducible refine Below.drew ?_) | (simp; done) | (simp; omega) | omega))))).mono ?_); rintro e w' ⟨rfl, hb⟩; obtain ⟨pp, rfl⟩ := later_of_below hb; clear hb))
      all_goals
        go_ret
        exact ⟨rfl, (by (repeat' (first | with_reducible exact Below.refl _ _ | (with_reducible refine below_later_of ?_ ?_ _) | (with_reducible refine Below.alloc ?_ ?_ _) | (with_reducible refine Below.setCell ?_ ?_ _) | (with_reducible refine Below.drew ?_) | (simp; done) | (simp; omega) | omega)))⟩
    · obtain ⟨e0, he⟩ : ∃ e, listE zs = e := ⟨_, rfl⟩
      have HE := Lib.hid he
      have dd : (decide ((64 : Int) < (n : Int)) = true ∧ decide ((n : Int) ≤ 128) = false) ∨ decide ((64 : Int) < (n : Int)) = false := by
        by_cases h : 64 < n
        · exact Or.inl ⟨by simp; omega, by simp; omega⟩
        · exact Or.inr (by simp; omega)
      by_cases h0 : e0 = 0
      · subst h0
        obtain ⟨⟨m, hm, hz⟩, -⟩ := listE_ok he
        have HRT := Lib.hid (show ∀ W, Below w.heap.size w W → _ from fun W hW => rTransform m hm zs _ W hz (HV.out.below hW) he)
        have HRI := Lib.hid (show ∀ W, Below w.heap.size w W → _ from fun W hW => rInverse m hm zs _ W hz (HV.out.below hW) he)
        have HT1 := Lib.hid (fun W u hu => transform_list m hm zs u W hz hu he)
        have HI1 := Lib.hid (fun W u hu => inverse_list m hm zs u W hz hu he)
        have HI2 := Lib.hid (fun W u hu => inverse_list m hm (trL m zs) u W (by rw [trL_len, hz]) hu (trL_ok hz he))
        have HT2 := Lib.hid (fun W u hu => transform_list m hm (bkL m zs) u W (by rw [bkL_len, hz]) hu (bkL_ok he))
        rw [bk_tr hm hz he] at HI2
        rw [tr_bk hm hz he] at HT2
        have HLX := Lib.hid (trL_len m zs)
        have HLY := Lib.hid (bkL_len m zs)
        generalize trL m zs = xs at HT1 HI2 HRT HLX
        generalize bkL m zs = ys at HI1 HT2 HRI HLY
        rw [hn] at HV HRT HRI ⊢
        clear hz he hn h1 h3
        rcases dd with ⟨d1, d2⟩ | d1
        all_goals
          go_enter Tryd.func6, Tryd.ntmps6
          go_wp2_with (first | (go_at_call 17; (with_reducible refine (awake_any _ (HT.out.below (by (repeat' (first | with_reducible exact Below.refl _ _ | (with_reducible refine below_later_of ?_ ?_ _) | (with_reducible refine Below.alloc ?_ ?_ _) | (with_reducible refine Below.setCell ?_ ?_ _) | (with_reducible refine Below.drew ?_) | (simp; done) | (simp; omega) | omega))))).mono ?_); rintro e w' ⟨rfl, hb⟩; obtain ⟨pp, rfl⟩ := later_of_below hb; clear hb) | (go_at_call 32; (with_reducible refine (copyInts_any zs _ _ (HV.out.below (by (repeat' (first | with_reducible exact Below.refl _ _ | (with_reducible refine below_later_of ?_ ?_ _) | (with_reducible refine Below.alloc ?_ ?_ _) | (with_reducible refine Below.setCell ?_ ?_ _) | (with_reducible refine Below.drew ?_) | (simp; done) | (simp; omega) | omega))))).mono ?_); rintro e w' ⟨a1, c1, rfl, ha, hb⟩; have HA1 := Lib.hid ha; clear ha; obtain ⟨pq, rfl⟩ := later_of_below hb; clear hb) | (go_at_call 36; (with_reducible refine (HT1.out _ _ (HA1.out.below (by (repeat' (first | with_reducible exact Below.refl _ _ | (with_reducible refine below_later_of ?_ ?_ _) | (with_reducible refine Below.alloc ?_ ?_ _) | (with_reducible refine Below.setCell ?_ ?_ _) | (with_reducible refine Below.drew ?_) | (simp; done) | (simp; omega) | omega))))).mono ?_); rintro e w' ⟨a2, c2, rfl, ha, hb⟩; have HX := Lib.hid ha; clear ha; obtain ⟨pq, rfl⟩ := later_of_below hb; clear hb) | (go_at_call 37; (with_reducible refine (HI1.out _ _ (HA1.out.below (by (repeat' (first | with_reducible exact Below.refl _ _ | (with_reducible refine below_later_of ?_ ?_ _) | (with_reducible refine Below.alloc ?_ ?_ _) | (with_reducible refine Below.setCell ?_ ?_ _) | (with_reducible refine Below.drew ?_) | (simp; done) | (simp; omega) | omega))))).mono ?_); rintro e w' ⟨a3, c3, rfl, ha, hb⟩; have HY := Lib.hid ha; clear ha; obtain ⟨pq, rfl⟩ := later_of_below hb; clear hb) | (go_at_call 33; (with_reducible refine (rCheckList zs _ _ (HV.out.below (by (repeat' (first | with_reducible exact Below.refl _ _ | (with_reducible refine below_later_of ?_ ?_ _) | (with_reducible refine Below.alloc ?_ ?_ _) | (with_reducible refine Below.setCell ?_ ?_ _) | (with_reducible refine Below.drew ?_) | (simp; done) | (simp; omega) | omega)))) HE.out).mono ?_); rintro e w' ⟨rfl, hb⟩; obtain ⟨pq, rfl⟩ := later_of_below hb; clear hb) | (go_at_call 38; (with_reducible refine (HRT.out _ (by (repeat' (first | with_reducible exact Below.refl _ _ | (with_reducible refine below_later_of ?_ ?_ _) | (with_reducible refine Below.alloc ?_ ?_ _) | (with_reducible refine Below.setCell ?_ ?_ _) | (with_reducible refine Below.drew ?_) | (simp; done) | (simp; omega) | omega)))).mono ?_); rintro e w' ⟨a4, c4, rfl, ha, hb⟩; have HRX := Lib.hid ha; clear ha; obtain ⟨pq, rfl⟩ := later_of_below hb; clear hb) | (go_at_call 39; (with_reducible refine (HRI.out _ (by (repeat' (first | with_reducible exact Below.refl _ _ | (with_reducible refine below_later_of ?_ ?_ _) | (with_reducible refine Below.alloc ?_ ?_ _) | (with_reducible refine Below.setCell ?_ ?_ _) | (with_reducible refine Below.drew ?_) | (simp; done) | (simp; omega) | omega)))).mono ?_); rintro e w' ⟨a5, c5, rfl, ha, hb⟩; have HRY := Lib.hid ha; clear ha; obtain ⟨pq, rfl⟩ := later_of_below hb; clear hb) | (go_at_call 34; (with_reducible refine (bInts xs xs _ _ _ (HX.out.below (by (repeat' (first | with_reducible exact Below.refl _ _ | (with_reducible refine below_later_of ?_ ?_ _) | (with_reducible refine Below.alloc ?_ ?_ _) | (with_reducible refine Below.setCell ?_ ?_ _) | (with_reducible refine Below.drew ?_) | (simp; done) | (simp; omega) | omega)))) (HRX.out.below (by (repeat' (first | with_reducible exact Below.refl _ _ | (with_reducible refine below_later_of ?_ ?_ _) | (with_reducible refine Below.alloc ?_ ?_ _) | (with_reducible refine Below.setCell ?_ ?_ _) | (with_reducible refine Below.drew ?_) | (simp; done) | (simp; omega) | omega)))) (c := true) (by simp)).mono ?_); rintro e w' ⟨rfl, hb⟩; obtain ⟨pq, rfl⟩ := later_of_below hb; clear hb) | (go_at_call 34; (with_reducible refine (bInts ys ys _ _ _ (HY.out.below (by (repeat' (first | with_reducible exact Below.refl _ _ | (with_reducible refine below_later_of ?_ ?_ _) | (with_reducible refine Below.alloc ?_ ?_ _) | (with_reducible refine Below.setCell ?_ ?_ _) | (with_reducible refine Below.drew ?_) | (simp; done) | (simp; omega) | omega)))) (HRY.out.below (by (repeat' (first | with_reducible exact Below.refl _ _ | (with_reducible refine below_later_of ?_ ?_ _) | (with_reducible refine Below.alloc ?_ ?_ _) | (with_reducible refine Below.setCell ?_ ?_ _) | (with_reducible refine Below.drew ?_) | (simp; done) | (simp; omega) | omega)))) (c := true) (by simp)).mono ?_); rintro e w' ⟨rfl, hb⟩; obtain ⟨pq, rfl⟩ := later_of_below hb; clear hb) | (go_at_call 32; (with_reducible refine (copyInts_any xs _ _ (HX.out.below (by (repeat' (first | with_reducible exact Below.refl _ _ | (with_reducible refine below_later_of ?_ ?_ _) | (with_reducible refine Below.alloc ?_ ?_ _) | (with_reducible refine Below.setCell ?_ ?_ _) | (with_reducible refine Below.drew ?_) | (simp; done) | (simp; omega) | omega))))).mono ?_); rintro e w' ⟨a6, c6, rfl, ha, hb⟩; have HAX := Lib.hid ha; clear ha; obtain ⟨pq, rfl⟩ := later_of_below hb; clear hb) | (go_at_call 32; (with_reducible refine (copyInts_any ys _ _ (HY.out.below (by (repeat' (first | with_reducible exact Below.refl _ _ | (with_reducible refine below_later_of ?_ ?_ _) | (with_reducible refine Below.alloc ?_ ?_ _) | (with_reducible refine Below.setCell ?_ ?_ _) | (with_reducible refine Below.drew ?_) | (simp; done) | (simp; omega) | omega))))).mono ?_); rintro e w' ⟨a7, c7, rfl, ha, hb⟩; have HAY := Lib.hid ha; clear ha; obtain ⟨pq, rfl⟩ := later_of_below hb; clear hb) | (go_at_call 37; (with_reducible refine (HI2.out _ _ (HAX.out.below (by (repeat' (first | with_reducible exact Below.refl _ _ | (with_reducible refine below_later_of ?_ ?_ _) | (with_reducible refine Below.alloc ?_ ?_ _) | (with_reducible refine Below.setCell ?_ ?_ _) | (with_reducible refine Below.drew ?_) | (simp; done) | (simp; omega) | omega))))).mono ?_); rintro e w' ⟨a8, c8, rfl, ha, hb⟩; have HU := Lib.hid ha; clear ha; obtain ⟨pq, rfl⟩ := later_of_below hb; clear hb) | (go_at_call 36; (with_reducible refine (HT2.out _ _ (HAY.out.below (by (repeat' (first | with_reducible exact Below.refl _ _ | (with_reducible refine below_later_of ?_ ?_ _) | (with_reducible refine Below.alloc ?_ ?_ _) | (with_reducible refine Below.setCell ?_ ?_ _) | (with_reducible refine Below.drew ?_) | (simp; done) | (simp; omega) | omega))))).mono ?_); rintro e w' ⟨a9, c9, rfl, ha, hb⟩; have HW := Lib.hid ha; clear ha; obtain ⟨pq, rfl⟩ := later_of_below hb; clear hb) | (go_at_call 34; (with_reducible refine (bInts zs zs _ _ _ (HU.out.below (by (repeat' (first | with_reducible exact Below.refl _ _ | (with_reducible refine below_later_of ?_ ?_ _) | (with_reducible refine Below.alloc ?_ ?_ _) | (with_reducible refine Below.setCell ?_ ?_ _) | (with_reducible refine Below.drew ?_) | (simp; done) | (simp; omega) | omega)))) (HV.out.below (by (repeat' (first | with_reducible exact Below.refl _ _ | (with_reducible refine below_later_of ?_ ?_ _) | (with_reducible refine Below.alloc ?_ ?_ _) | (with_reducible refine Below.setCell ?_ ?_ _) | (with_reducible refine Below.drew ?_) | (simp; done) | (simp; omega) | omega)))) (c := true) (by simp)).mono ?_); rintro e w' ⟨rfl, hb⟩; obtain ⟨pq, rfl⟩ := later_of_below hb; clear hb) | (go_at_call 34; (with_reducible refine (bInts zs zs _ _ _ (HW.out.below (by (repeat' (first | with_reducible exact Below.refl _ _ | (with_reducible refine below_later_of ?_ ?_ _) | (with_reducible refine Below.alloc ?_ ?_ _) | (with_reducible refine Below.setCell ?_ ?_ _) | (with_reducible refine Below.drew ?_) | (simp; done) | (simp; omega) | omega)))) (HV.out.below (by (repeat' (first | with_reducible exact Below.refl _ _ | (with_reducible refine below_later_of ?_ ?_ _) | (with_reducible refine Below.alloc ?_ ?_ _) | (with_reducible refine Below.setCell ?_ ?_ _) | (with_reducible refine Below.drew ?_) | (simp; done) | (simp; omega) | omega)))) (c := true) (by simp)).mono ?_); rintro e w' ⟨rfl, hb⟩; obtain ⟨pq, rfl⟩ := later_of_below hb; clear hb))
          all_goals
            go_ret
            exact ⟨rfl, (by (repeat' (first | with_reducible exact Below.refl _ _ | (with_reducible refine below_later_of ?_ ?_ _) | (with_reducible refine Below.alloc ?_ ?_ _) | (with_reducible refine Below.setCell ?_ ?_ _) | (with_reducible refine Below.drew ?_) | (simp; done) | (simp; omega) | omega)))⟩
      · have HN := Lib.hid h0
        have hne : (e0 != 0) = true := by simpa using h0
        have heq : (e0 == e0) = true := by simp
        rw [hn] at HV ⊢
        clear he h0 hn h1 h3
        rcases dd with ⟨d1, d2⟩ | d1
        all_goals
          go_enter Tryd.func6, Tryd.ntmps6
          go_wp2_with (first | (go_at_call 17; (with_reducible refine (awake_any _ (HT.out.below (by (repeat' (first | with_reducible exact Below.refl _ _ | (with_reducible refine below_later_of ?_ ?_ _) | (with_reducible refine Below.alloc ?_ ?_ _) | (with_reducible refine Below.setCell ?_ ?_ _) | (with_reducible refine Below.drew ?_) | (simp; done) | (simp; omega) | omega))))).mono ?_); rintro e w' ⟨rfl, hb⟩; obtain ⟨pp, rfl⟩ := later_of_below hb; clear hb) | (go_at_call 32; (with_reducible refine (copyInts_any zs _ _ (HV.out.below (by (repeat' (first | with_reducible exact Below.refl _ _ | (with_reducible refine below_later_of ?_ ?_ _) | (with_reducible refine Below.alloc ?_ ?_ _) | (with_reducible refine Below.setCell ?_ ?_ _) | (with_reducible refine Below.drew ?_) | (simp; done) | (simp; omega) | omega))))).mono ?_); rintro e w' ⟨a1, c1, rfl, ha, hb⟩; have HA1 := Lib.hid ha; clear ha; obtain ⟨pq, rfl⟩ := later_of_below hb; clear hb) | (go_at_call 36; (with_reducible refine (transform_bad zs _ _ (HA1.out.below (by (repeat' (first | with_reducible exact Below.refl _ _ | (with_reducible refine below_later_of ?_ ?_ _) | (with_reducible refine Below.alloc ?_ ?_ _) | (with_reducible refine Below.setCell ?_ ?_ _) | (with_reducible refine Below.drew ?_) | (simp; done) | (simp; omega) | omega)))) HE.out HN.out).mono ?_); rintro e w' ⟨rfl, rfl⟩) | (go_at_call 37; (with_reducible refine (inverse_bad zs _ _ (HA1.out.below (by (repeat' (first | with_reducible exact Below.refl _ _ | (with_reducible refine below_later_of ?_ ?_ _) | (with_reducible refine Below.alloc ?_ ?_ _) | (with_reducible refine Below.setCell ?_ ?_ _) | (with_reducible refine Below.drew ?_) | (simp; done) | (simp; omega) | omega)))) HE.out HN.out).mono ?_); rintro e w' ⟨rfl, rfl⟩) | (go_at_call 33; (with_reducible refine (rCheckList zs _ _ (HV.out.below (by (repeat' (first | with_reducible exact Below.refl _ _ | (with_reducible refine below_later_of ?_ ?_ _) | (with_reducible refine Below.alloc ?_ ?_ _) | (with_reducible refine Below.setCell ?_ ?_ _) | (with_reducible refine Below.drew ?_) | (simp; done) | (simp; omega) | omega)))) HE.out).mono ?_); rintro e w' ⟨rfl, hb⟩; obtain ⟨pq, rfl⟩ := later_of_below hb; clear hb))
          all_goals
            go_ret
            exact ⟨rfl, (by (repeat' (first | with_reducible exact Below.refl _ _ | (with_reducible refine below_later_of ?_ ?_ _) | (with_reducible refine Below.alloc ?_ ?_ _) | (with_reducible refine Below.setCell ?_ ?_ _) | (with_reducible refine Below.drew ?_) | (simp; done) | (simp; omega) | omega)))⟩
end Go.Proofs.YtakohhlmomgegaaDoor
