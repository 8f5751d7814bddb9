/- Chapter 1's door seat: the law EchoCorrelates returns true. -/
import Derived.Test.YtakohhlmomgegaaDoorQ10
import Derived.Test.YtakohhlmomgegaaDoorU72
import Derived.Test.YtakohhlmomgegaaDoorU76
namespace Go.Proofs.YtakohhlmomgegaaDoor
set_option linter.unusedVariables false
set_option linter.unusedSimpArgs false
open Go.RowKit Ntt
theorem IntsV.cells {w : World} {a : Option Addr} {n c : Nat} {xs : List Int} (h : IntsV w (.slice a n c) xs) (h0 : 0 < n) : ∃ b off, a = some ⟨b, off, none⟩ ∧ b < w.heap.size ∧ ∀ k, k < n → w.cell? ⟨b, off + k, none⟩ = some (.int .i64 (intAt xs k)) := by
  obtain ⟨-, a', c', he, h4⟩ := h
  cases he
  exact h4 h0
theorem correlate_list (m : Nat) (hm : m ≤ 7) (zs ys : List Int) (v u : Value) (w : World) (hz : zs.length = 2 ^ m) (hy : ys.length = zs.length) (hv : IntsV w v zs) (hu : IntsV w u ys) (he : listE zs = 0) (he2 : listE ys = 0) :
    Calls Tryd.prog 31 #[v, u] w (LiPost (crL zs ys) w) := by
  have hl : zs.length ≤ 128 := by
    have hp : 2 ^ m ≤ 2 ^ 7 := Nat.pow_le_pow_right (by decide) hm
    omega
  refine (correlate_ok m hm zs ys v u w hz hy hv hu he he2).mono ?_
  rintro e w' ⟨g, c, rfl, -, ho, hb⟩
  unfold LiPost
  rw [crL_len]
  exact ⟨_, c, rfl, intsV_of ho (by omega), hb⟩
theorem crL_ok {zs ys : List Int} (h : listE zs = 0) : listE (crL zs ys) = 0 := by
  refine listE_of (by rw [crL_len]; exact listE_two h) fun k hk => ?_
  rw [crL_len] at hk
  unfold crL
  rw [intAt_map _ hk]
  exact ⟨Int.emod_nonneg _ (by decide), Int.emod_lt_of_pos _ (by decide)⟩
theorem trL_at {m : Nat} {zs : List Int} {k : Nat} (hk : k < zs.length) : intAt (trL m zs) k = fft PP m (intAt zs) (rootM zs.length) k := by
  unfold trL
  exact intAt_map _ hk
theorem trL_bd {m : Nat} {zs : List Int} (hz : zs.length = 2 ^ m) (he : listE zs = 0) {k : Nat} (hk : k < zs.length) : 0 ≤ intAt (trL m zs) k ∧ intAt (trL m zs) k < 998244353 := by
  rw [trL_at hk]
  exact fft_range hz (listE_ok he).2 _ _
theorem corr_lists {m : Nat} (hm : m ≤ 7) {zs ys : List Int} (hz : zs.length = 2 ^ m) (hy : ys.length = zs.length) (he : listE zs = 0) {k : Nat} (hk : k < zs.length) :
    intAt (trL m zs) k * intAt (trL m ys) ((zs.length - k) % zs.length) % 998244353 = intAt (trL m (crL zs ys)) k := by
  have hk2 : (zs.length - k) % zs.length < zs.length := Nat.mod_lt _ (by omega)
  rw [trL_at hk, trL_at (zs := crL zs ys) (by rw [crL_len]; exact hk), trL_at (zs := ys) (by rw [hy]; exact hk2), crL_len, hy, fft_same m (a := intAt (crL zs ys)) (b := fun s => corr zs.length (intAt zs) (intAt ys) s % PP) _ _ (fun i hi => by unfold crL; rw [intAt_map _ (by omega)])]
  have h := fft_corr hm hz (intAt zs) (intAt ys) hk
  have e := h.symm.emod_eq
  rw [Int.emod_eq_of_lt (a := fft PP m _ _ _) (fft_bd m _ _ (fun i _ => ⟨Int.emod_nonneg _ (by decide), Int.emod_lt_of_pos _ (by decide)⟩)).1 (fft_bd m _ _ (fun i _ => ⟨Int.emod_nonneg _ (by decide), Int.emod_lt_of_pos _ (by decide)⟩)).2] at e
  exact e
theorem wp_worldC {P : Program} {c : Code} {Q : Exit → Act → World → Prop} {a : Act} {w : World} (F : World → Prop) (hf : F w) (h : ∀ W, F W → Code.wp P c Q a W) : Code.wp P c Q a w := h w hf
set_option maxRecDepth 20000 in
set_option maxHeartbeats 8000000 in
theorem correlates_any (zs ys : List Int) (v u : Value) (w : World) (hv : IntsX w v zs) (hu : IntsX w u ys) (ht : Tab w) : Calls Tryd.prog 5 #[v, u] w fun e w' => e = .returned (.bool true) ∧ Below w.heap.size w w' := by
  have HT := Lib.hid ht
  clear ht
  obtain ⟨n, hn⟩ : ∃ n, zs.length = n := ⟨_, rfl⟩
  obtain ⟨k, hk⟩ : ∃ k, ys.length = k := ⟨_, rfl⟩
  have hv0 := hv
  have hu0 := hu
  obtain ⟨⟨a, cap, rfl, -⟩, -⟩ := hv
  obtain ⟨⟨a', cap', rfl, -⟩, -⟩ := hu
  by_cases g1 : 130 < n
  · rw [hn, hk]
    clear hv0 hu0 hn hk
    go_enter Tryd.func5, Tryd.ntmps5
    go_wp2_with (first | (go_at_call 17; (with_reducible refine (awake_any _ (HT.out.below (by (repeat' (first | with_reducible exact Below.refl _ _ | (with_reducible refine below_later_of ?_ ?_ _) | (with_reducible refine Below.alloc ?_ ?_ _) | (with_reducible refine Below.setCell ?_ ?_ _) | (with_reducible refine Below.drew ?_) | (simp; done) | (simp; omega) | omega))))).mono ?_); rintro e w' ⟨rfl, hb⟩; obtain ⟨pp, rfl⟩ := later_of_below hb; clear hb))
    all_goals
      go_ret
      exact ⟨rfl, (by (repeat' (first | with_reducible exact Below.refl _ _ | (with_reducible refine below_later_of ?_ ?_ _) | (with_reducible refine Below.alloc ?_ ?_ _) | (with_reducible refine Below.setCell ?_ ?_ _) | (with_reducible refine Below.drew ?_) | (simp; done) | (simp; omega) | omega)))⟩
  by_cases g2 : 64 < n ∧ n ≤ 128
  · rw [hn, hk]
    obtain ⟨g2, g3⟩ := g2
    clear hv0 hu0 hn hk
    go_enter Tryd.func5, Tryd.ntmps5
    go_wp2_with (first | (go_at_call 17; (with_reducible refine (awake_any _ (HT.out.below (by (repeat' (first | with_reducible exact Below.refl _ _ | (with_reducible refine below_later_of ?_ ?_ _) | (with_reducible refine Below.alloc ?_ ?_ _) | (with_reducible refine Below.setCell ?_ ?_ _) | (with_reducible refine Below.drew ?_) | (simp; done) | (simp; omega) | omega))))).mono ?_); rintro e w' ⟨rfl, hb⟩; obtain ⟨pp, rfl⟩ := later_of_below hb; clear hb))
    all_goals
      go_ret
      exact ⟨rfl, (by (repeat' (first | with_reducible exact Below.refl _ _ | (with_reducible refine below_later_of ?_ ?_ _) | (with_reducible refine Below.alloc ?_ ?_ _) | (with_reducible refine Below.setCell ?_ ?_ _) | (with_reducible refine Below.drew ?_) | (simp; done) | (simp; omega) | omega)))⟩
  have gn : n ≤ 64 ∨ (128 < n ∧ n ≤ 130) := by omega
  by_cases g3 : 130 < k
  · rw [hn, hk]
    clear hv0 hu0 hn hk g1 g2
    rcases gn with gn | ⟨gn, gn2⟩
    all_goals
      go_enter Tryd.func5, Tryd.ntmps5
      go_wp2_with (first | (go_at_call 17; (with_reducible refine (awake_any _ (HT.out.below (by (repeat' (first | with_reducible exact Below.refl _ _ | (with_reducible refine below_later_of ?_ ?_ _) | (with_reducible refine Below.alloc ?_ ?_ _) | (with_reducible refine Below.setCell ?_ ?_ _) | (with_reducible refine Below.drew ?_) | (simp; done) | (simp; omega) | omega))))).mono ?_); rintro e w' ⟨rfl, hb⟩; obtain ⟨pp, rfl⟩ := later_of_below hb; clear hb))
      all_goals
        go_ret
        exact ⟨rfl, (by (repeat' (first | with_reducible exact Below.refl _ _ | (with_reducible refine below_later_of ?_ ?_ _) | (with_reducible refine Below.alloc ?_ ?_ _) | (with_reducible refine Below.setCell ?_ ?_ _) | (with_reducible refine Below.drew ?_) | (simp; done) | (simp; omega) | omega)))⟩
  by_cases g4 : 64 < k ∧ k ≤ 128
  · rw [hn, hk]
    obtain ⟨g4, g5⟩ := g4
    clear hv0 hu0 hn hk g1 g2
    rcases gn with gn | ⟨gn, gn2⟩
    all_goals
      go_enter Tryd.func5, Tryd.ntmps5
      go_wp2_with (first | (go_at_call 17; (with_reducible refine (awake_any _ (HT.out.below (by (repeat' (first | with_reducible exact Below.refl _ _ | (with_reducible refine below_later_of ?_ ?_ _) | (with_reducible refine Below.alloc ?_ ?_ _) | (with_reducible refine Below.setCell ?_ ?_ _) | (with_reducible refine Below.drew ?_) | (simp; done) | (simp; omega) | omega))))).mono ?_); rintro e w' ⟨rfl, hb⟩; obtain ⟨pp, rfl⟩ := later_of_below hb; clear hb))
      all_goals
        go_ret
        exact ⟨rfl, (by (repeat' (first | with_reducible exact Below.refl _ _ | (with_reducible refine below_later_of ?_ ?_ _) | (with_reducible refine Below.alloc ?_ ?_ _) | (with_reducible refine Below.setCell ?_ ?_ _) | (with_reducible refine Below.drew ?_) | (simp; done) | (simp; omega) | omega)))⟩
  have gk : k ≤ 64 ∨ (128 < k ∧ k ≤ 130) := by omega
  have HV := Lib.hid (hv0.ints (by omega))
  have HU := Lib.hid (hu0.ints (by omega))
  clear hv0 hu0 g1 g2 g3 g4
  obtain ⟨e1, he1⟩ : ∃ e, listE zs = e := ⟨_, rfl⟩
  obtain ⟨e2, he2⟩ : ∃ e, listE ys = e := ⟨_, rfl⟩
  have HE1 := Lib.hid he1
  have HE2 := Lib.hid he2
  by_cases h1 : e1 = 0
  · subst h1
    by_cases h2 : e2 = 0
    · subst h2
      have gn2 : n ≤ 64 := by
        have := listE_two he1
        unfold twoB at this
        simp at this
        omega
      have gk2 : k ≤ 64 := by
        have := listE_two he2
        unfold twoB at this
        simp at this
        omega
      clear gn gk
      have hf : first2 (listE zs) (listE ys) = 0 := by rw [he1, he2]; rfl
      by_cases h3 : k = n
      · subst h3
        have hlen : ys.length = zs.length := by omega
        obtain ⟨⟨m, hm, hz⟩, hr⟩ := listE_ok he1
        have hr2 := (listE_ok he2).2
        have h0 : 0 < k := by rw [← hn, hz]; exact Nat.two_pow_pos m
        have HCO := Lib.hid (fun u v W hu hv => correlate_list m hm zs ys u v W hz hlen hu hv he1 he2)
        have HRC := Lib.hid (show ∀ W, Below w.heap.size w W → _ from fun W hW => rCorrelate zs ys _ _ W (by omega) (by omega) hlen (HV.out.below hW) (HU.out.below hW) hr hr2)
        have HT1 := Lib.hid (fun W u hu => transform_list m hm zs u W hz hu he1)
        have HT2 := Lib.hid (fun W u hu => transform_list m hm ys u W (by rw [hlen, hz]) hu he2)
        have HT3 := Lib.hid (fun W u hu => transform_list m hm (crL zs ys) u W (by rw [crL_len, hz]) hu (crL_ok he1))
        have HPQ := Lib.hid (show ∀ j, j < k → intAt (trL m zs) j * intAt (trL m ys) ((k - j) % k) % 998244353 = intAt (trL m (crL zs ys)) j from fun j hj => by
          have := corr_lists hm hz hlen he1 (k := j) (by omega)
          rwa [hn] at this)
        have HB1 := Lib.hid (show ∀ j, j < k → 0 ≤ intAt (trL m zs) j ∧ intAt (trL m zs) j < 998244353 from fun j hj => trL_bd hz he1 (by omega))
        have HB2 := Lib.hid (show ∀ j, j < k → 0 ≤ intAt (trL m ys) j ∧ intAt (trL m ys) j < 998244353 from fun j hj => trL_bd (by rw [hlen, hz]) he2 (by omega))
        have l1 := trL_len m zs
        have l2 := trL_len m ys
        have l3 := trL_len m (crL zs ys)
        have l4 := crL_len zs ys
        rw [l4] at l3
        generalize trL m (crL zs ys) = tz at HT3 HPQ l3
        generalize crL zs ys = cs at HCO HRC HT3 l4
        generalize trL m zs = tx at HT1 HPQ HB1 l1
        generalize trL m ys = ty at HT2 HPQ HB2 l2
        rw [hlen] at l2
        unfold LiPost at HCO HT1 HT2 HT3
        unfold ListPost at HRC
        rw [l4] at HCO HRC
        rw [l1] at HT1
        rw [l2] at HT2
        rw [l3] at HT3
        rw [hn] at HV HCO HRC HT1 HT2 HT3 ⊢
        rw [hk] at HU HRC ⊢
        clear hz hlen he1 he2 hr hr2 l1 l2 l3 l4 hn hk hf
        go_enter Tryd.func5, Tryd.ntmps5
        go_wp2_with (first | (go_at_call 17; (with_reducible refine (awake_any _ (HT.out.below (by (repeat' (first | with_reducible exact Below.refl _ _ | (with_reducible refine below_later_of ?_ ?_ _) | (with_reducible refine Below.alloc ?_ ?_ _) | (with_reducible refine Below.setCell ?_ ?_ _) | (with_reducible refine Below.drew ?_) | (simp; done) | (simp; omega) | omega))))).mono ?_); rintro e w' ⟨rfl, hb⟩; obtain ⟨pp, rfl⟩ := later_of_below hb; clear hb) | (go_at_call 32; (with_reducible refine (copyInts_any zs _ _ (HV.out.below (by (repeat' (first | with_reducible exact Below.refl _ _ | (with_reducible refine below_later_of ?_ ?_ _) | (with_reducible refine Below.alloc ?_ ?_ _) | (with_reducible refine Below.setCell ?_ ?_ _) | (with_reducible refine Below.drew ?_) | (simp; done) | (simp; omega) | omega))))).mono ?_); rintro e w' ⟨a1, c1, rfl, ha, hb⟩; have HA1 := Lib.hid ha; clear ha; obtain ⟨pq, rfl⟩ := later_of_below hb; clear hb) | (go_at_call 32; (with_reducible refine (copyInts_any ys _ _ (HU.out.below (by (repeat' (first | with_reducible exact Below.refl _ _ | (with_reducible refine below_later_of ?_ ?_ _) | (with_reducible refine Below.alloc ?_ ?_ _) | (with_reducible refine Below.setCell ?_ ?_ _) | (with_reducible refine Below.drew ?_) | (simp; done) | (simp; omega) | omega))))).mono ?_); rintro e w' ⟨a2, c2, rfl, ha, hb⟩; have HA2 := Lib.hid ha; clear ha; obtain ⟨pq, rfl⟩ := later_of_below hb; clear hb) | (go_at_call 32; (with_reducible refine (copyInts_any cs _ _ (HCR.out.below (by (repeat' (first | with_reducible exact Below.refl _ _ | (with_reducible refine below_later_of ?_ ?_ _) | (with_reducible refine Below.alloc ?_ ?_ _) | (with_reducible refine Below.setCell ?_ ?_ _) | (with_reducible refine Below.drew ?_) | (simp; done) | (simp; omega) | omega))))).mono ?_); rintro e w' ⟨a3, c3, rfl, ha, hb⟩; have HA3 := Lib.hid ha; clear ha; obtain ⟨pq, rfl⟩ := later_of_below hb; clear hb) | (go_at_call 33; (with_reducible refine (rCheckList zs _ _ (HV.out.below (by (repeat' (first | with_reducible exact Below.refl _ _ | (with_reducible refine below_later_of ?_ ?_ _) | (with_reducible refine Below.alloc ?_ ?_ _) | (with_reducible refine Below.setCell ?_ ?_ _) | (with_reducible refine Below.drew ?_) | (simp; done) | (simp; omega) | omega)))) HE1.out).mono ?_); rintro e w' ⟨rfl, hb⟩; obtain ⟨pq, rfl⟩ := later_of_below hb; clear hb) | (go_at_call 33; (with_reducible refine (rCheckList ys _ _ (HU.out.below (by (repeat' (first | with_reducible exact Below.refl _ _ | (with_reducible refine below_later_of ?_ ?_ _) | (with_reducible refine Below.alloc ?_ ?_ _) | (with_reducible refine Below.setCell ?_ ?_ _) | (with_reducible refine Below.drew ?_) | (simp; done) | (simp; omega) | omega)))) HE2.out).mono ?_); rintro e w' ⟨rfl, hb⟩; obtain ⟨pq, rfl⟩ := later_of_below hb; clear hb) | (go_at_call 31; (with_reducible refine (HCO.out _ _ _ (HA1.out.below (by (repeat' (first | with_reducible exact Below.refl _ _ | (with_reducible refine below_later_of ?_ ?_ _) | (with_reducible refine Below.alloc ?_ ?_ _) | (with_reducible refine Below.setCell ?_ ?_ _) | (with_reducible refine Below.drew ?_) | (simp; done) | (simp; omega) | omega)))) (HA2.out.below (by (repeat' (first | with_reducible exact Below.refl _ _ | (with_reducible refine below_later_of ?_ ?_ _) | (with_reducible refine Below.alloc ?_ ?_ _) | (with_reducible refine Below.setCell ?_ ?_ _) | (with_reducible refine Below.drew ?_) | (simp; done) | (simp; omega) | omega))))).mono ?_); rintro e w' ⟨a4, c4, rfl, ha, hb⟩; have HCR := Lib.hid ha; clear ha; obtain ⟨pq, rfl⟩ := later_of_below hb; clear hb) | (go_at_call 35; (with_reducible refine (HRC.out _ (by (repeat' (first | with_reducible exact Below.refl _ _ | (with_reducible refine below_later_of ?_ ?_ _) | (with_reducible refine Below.alloc ?_ ?_ _) | (with_reducible refine Below.setCell ?_ ?_ _) | (with_reducible refine Below.drew ?_) | (simp; done) | (simp; omega) | omega)))).mono ?_); rintro e w' ⟨a5, c5, rfl, ha, hb⟩; have HRR := Lib.hid ha; clear ha; obtain ⟨pq, rfl⟩ := later_of_below hb; clear hb) | (go_at_call 34; (with_reducible refine (bInts cs cs _ _ _ (HCR.out.below (by (repeat' (first | with_reducible exact Below.refl _ _ | (with_reducible refine below_later_of ?_ ?_ _) | (with_reducible refine Below.alloc ?_ ?_ _) | (with_reducible refine Below.setCell ?_ ?_ _) | (with_reducible refine Below.drew ?_) | (simp; done) | (simp; omega) | omega)))) (HRR.out.below (by (repeat' (first | with_reducible exact Below.refl _ _ | (with_reducible refine below_later_of ?_ ?_ _) | (with_reducible refine Below.alloc ?_ ?_ _) | (with_reducible refine Below.setCell ?_ ?_ _) | (with_reducible refine Below.drew ?_) | (simp; done) | (simp; omega) | omega)))) (c := true) (by simp)).mono ?_); rintro e w' ⟨rfl, hb⟩; obtain ⟨pq, rfl⟩ := later_of_below hb; clear hb) | (go_at_call 36; (with_reducible refine (HT1.out _ _ (HA1.out.below (by (repeat' (first | with_reducible exact Below.refl _ _ | (with_reducible refine below_later_of ?_ ?_ _) | (with_reducible refine Below.alloc ?_ ?_ _) | (with_reducible refine Below.setCell ?_ ?_ _) | (with_reducible refine Below.drew ?_) | (simp; done) | (simp; omega) | omega))))).mono ?_); rintro e w' ⟨a6, c6, rfl, ha, hb⟩; have HX := Lib.hid ha; clear ha; obtain ⟨pq, rfl⟩ := later_of_below hb; clear hb) | (go_at_call 36; (with_reducible refine (HT2.out _ _ (HA2.out.below (by (repeat' (first | with_reducible exact Below.refl _ _ | (with_reducible refine below_later_of ?_ ?_ _) | (with_reducible refine Below.alloc ?_ ?_ _) | (with_reducible refine Below.setCell ?_ ?_ _) | (with_reducible refine Below.drew ?_) | (simp; done) | (simp; omega) | omega))))).mono ?_); rintro e w' ⟨a7, c7, rfl, ha, hb⟩; have HY := Lib.hid ha; clear ha; obtain ⟨pq, rfl⟩ := later_of_below hb; clear hb) | (go_at_call 36; (with_reducible refine (HT3.out _ _ (HA3.out.below (by (repeat' (first | with_reducible exact Below.refl _ _ | (with_reducible refine below_later_of ?_ ?_ _) | (with_reducible refine Below.alloc ?_ ?_ _) | (with_reducible refine Below.setCell ?_ ?_ _) | (with_reducible refine Below.drew ?_) | (simp; done) | (simp; omega) | omega))))).mono ?_); rintro e w' ⟨a8, c8, rfl, ha, hb⟩; have HZ := Lib.hid ha; clear ha; obtain ⟨pq, rfl⟩ := later_of_below hb; clear hb))
        refine wp_worldC (fun W => IntsV W (.slice a6 k c6) tx ∧ IntsV W (.slice a7 k c7) ty ∧ IntsV W (.slice a8 k c8) tz ∧ Below w.heap.size w W) ⟨HX.out.below (by (repeat' (first | with_reducible exact Below.refl _ _ | (with_reducible refine below_later_of ?_ ?_ _) | (with_reducible refine Below.alloc ?_ ?_ _) | (with_reducible refine Below.setCell ?_ ?_ _) | (with_reducible refine Below.drew ?_) | (simp; done) | (simp; omega) | omega))), HY.out.below (by (repeat' (first | with_reducible exact Below.refl _ _ | (with_reducible refine below_later_of ?_ ?_ _) | (with_reducible refine Below.alloc ?_ ?_ _) | (with_reducible refine Below.setCell ?_ ?_ _) | (with_reducible refine Below.drew ?_) | (simp; done) | (simp; omega) | omega))), HZ.out.below (by (repeat' (first | with_reducible exact Below.refl _ _ | (with_reducible refine below_later_of ?_ ?_ _) | (with_reducible refine Below.alloc ?_ ?_ _) | (with_reducible refine Below.setCell ?_ ?_ _) | (with_reducible refine Below.drew ?_) | (simp; done) | (simp; omega) | omega))), (by (repeat' (first | with_reducible exact Below.refl _ _ | (with_reducible refine below_later_of ?_ ?_ _) | (with_reducible refine Below.alloc ?_ ?_ _) | (with_reducible refine Below.setCell ?_ ?_ _) | (with_reducible refine Below.drew ?_) | (simp; done) | (simp; omega) | omega)))⟩ ?_
        rintro W2 ⟨hx, hy, hz, hb2⟩
        obtain ⟨b6, o6, rfl, l6, x6⟩ := hx.cells h0
        obtain ⟨b7, o7, rfl, l7, x7⟩ := hy.cells h0
        obtain ⟨b8, o8, rfl, l8, x8⟩ := hz.cells h0
        have X6 := Lib.hid x6
        have X7 := Lib.hid x7
        have X8 := Lib.hid x8
        have HBB := Lib.hid hb2
        clear x6 x7 x8 hx hy hz hb2 HX HY HZ HA1 HA2 HA3 HCR HRR HCO HRC HT1 HT2 HT3 HV HU HT HE1 HE2
        go_loopw [14] (fun i wr => ∃ j : Nat, j ≤ k ∧ i = .int .i64 j ∧ Below W2.heap.size W2 wr) (fun i _ => k - (intOf i).toNat)
        case atStart => exact ⟨0, Nat.zero_le _, rfl, Below.refl _ _⟩
        case round =>
          obtain ⟨j, hj, rfl, hb⟩ := hrel
          have HB := Lib.hid hb
          by_cases hlt : j < k
          · have hdk : decide ((j : Int) < (k : Int)) = true := by simp; omega
            obtain ⟨t, ht⟩ : ∃ t, (k - j) % k = t := ⟨_, rfl⟩
            have htk : t < k := by rw [← ht]; exact Nat.mod_lt _ h0
            have hmod : ((k : Int) - (j : Int)) % (k : Int) = (t : Int) := by rw [← ht, Int.natCast_emod, Int.natCast_sub (by omega)]
            have cx := (hb.cell (p := ⟨b6, o6 + j, none⟩) l6).trans (X6.out j hlt)
            have cy := (hb.cell (p := ⟨b7, o7 + t, none⟩) l7).trans (X7.out t htk)
            have cz := (hb.cell (p := ⟨b8, o8 + j, none⟩) l8).trans (X8.out j hlt)
            obtain ⟨p1, p2⟩ := HB1.out j hlt
            obtain ⟨q1, q2⟩ := HB2.out t htk
            have hpq := HPQ.out j hlt
            rw [ht] at hpq
            generalize intAt tx j = p at cx p1 p2 hpq
            generalize intAt ty t = q at cy q1 q2 hpq
            generalize intAt tz j = z at cz hpq
            subst hpq
            obtain ⟨m1, m2⟩ := pp_mul p1 p2 q1 q2
            have HW1 := Lib.hid (fun w => bWithin p 0 998244352 w (c := true) (by unfold inE; simp; omega))
            have HW2 := Lib.hid (fun w => bWithin q 0 998244352 w (c := true) (by unfold inE; simp; omega))
            clear hb ht
            go_wp2
            go_region
            all_goals
              go_wp2_with (first | (go_at_call 30; (with_reducible refine (HW1.out _).mono ?_); rintro e w' ⟨rfl, rfl⟩) | (go_at_call 30; (with_reducible refine (HW2.out _).mono ?_); rintro e w' ⟨rfl, rfl⟩))
              go_roundw
              case rel => exact ⟨j + 1, by omega, by go_num, HB.out.trans (by (repeat' (first | with_reducible exact Below.refl _ _ | (with_reducible refine below_later_of ?_ ?_ _) | (with_reducible refine Below.alloc ?_ ?_ _) | (with_reducible refine Below.setCell ?_ ?_ _) | (with_reducible refine Below.drew ?_) | (simp; done) | (simp; omega) | omega)))⟩
              case measure => simp [intOf]; omega
          · obtain rfl : j = k := by omega
            have hdk : decide ((j : Int) < (j : Int)) = false := by simp
            clear hb
            go_wp2
            go_ret
            exact ⟨rfl, HBB.out.trans (HB.out.mono HBB.out.size)⟩
      · have hne : ((n : Int) != (k : Int)) = true := by rw [bne_iff_ne]; omega
        have HF := Lib.hid hf
        have HN := Lib.hid (show ys.length ≠ zs.length by omega)
        rw [hn] at HV ⊢
        rw [hk] at HU ⊢
        clear he1 he2 hf h3 hn hk
        go_enter Tryd.func5, Tryd.ntmps5
        go_wp2_with (first | (go_at_call 17; (with_reducible refine (awake_any _ (HT.out.below (by (repeat' (first | with_reducible exact Below.refl _ _ | (with_reducible refine below_later_of ?_ ?_ _) | (with_reducible refine Below.alloc ?_ ?_ _) | (with_reducible refine Below.setCell ?_ ?_ _) | (with_reducible refine Below.drew ?_) | (simp; done) | (simp; omega) | omega))))).mono ?_); rintro e w' ⟨rfl, hb⟩; obtain ⟨pp, rfl⟩ := later_of_below hb; clear hb) | (go_at_call 32; (with_reducible refine (copyInts_any zs _ _ (HV.out.below (by (repeat' (first | with_reducible exact Below.refl _ _ | (with_reducible refine below_later_of ?_ ?_ _) | (with_reducible refine Below.alloc ?_ ?_ _) | (with_reducible refine Below.setCell ?_ ?_ _) | (with_reducible refine Below.drew ?_) | (simp; done) | (simp; omega) | omega))))).mono ?_); rintro e w' ⟨a1, c1, rfl, ha, hb⟩; have HA1 := Lib.hid ha; clear ha; obtain ⟨pq, rfl⟩ := later_of_below hb; clear hb) | (go_at_call 32; (with_reducible refine (copyInts_any ys _ _ (HU.out.below (by (repeat' (first | with_reducible exact Below.refl _ _ | (with_reducible refine below_later_of ?_ ?_ _) | (with_reducible refine Below.alloc ?_ ?_ _) | (with_reducible refine Below.setCell ?_ ?_ _) | (with_reducible refine Below.drew ?_) | (simp; done) | (simp; omega) | omega))))).mono ?_); rintro e w' ⟨a2, c2, rfl, ha, hb⟩; have HA2 := Lib.hid ha; clear ha; obtain ⟨pq, rfl⟩ := later_of_below hb; clear hb) | (go_at_call 33; (with_reducible refine (rCheckList zs _ _ (HV.out.below (by (repeat' (first | with_reducible exact Below.refl _ _ | (with_reducible refine below_later_of ?_ ?_ _) | (with_reducible refine Below.alloc ?_ ?_ _) | (with_reducible refine Below.setCell ?_ ?_ _) | (with_reducible refine Below.drew ?_) | (simp; done) | (simp; omega) | omega)))) HE1.out).mono ?_); rintro e w' ⟨rfl, hb⟩; obtain ⟨pq, rfl⟩ := later_of_below hb; clear hb) | (go_at_call 33; (with_reducible refine (rCheckList ys _ _ (HU.out.below (by (repeat' (first | with_reducible exact Below.refl _ _ | (with_reducible refine below_later_of ?_ ?_ _) | (with_reducible refine Below.alloc ?_ ?_ _) | (with_reducible refine Below.setCell ?_ ?_ _) | (with_reducible refine Below.drew ?_) | (simp; done) | (simp; omega) | omega)))) HE2.out).mono ?_); rintro e w' ⟨rfl, hb⟩; obtain ⟨pq, rfl⟩ := later_of_below hb; clear hb) | (go_at_call 31; (with_reducible refine (correlate_clash zs ys _ _ _ (HA1.out.below (by (repeat' (first | with_reducible exact Below.refl _ _ | (with_reducible refine below_later_of ?_ ?_ _) | (with_reducible refine Below.alloc ?_ ?_ _) | (with_reducible refine Below.setCell ?_ ?_ _) | (with_reducible refine Below.drew ?_) | (simp; done) | (simp; omega) | omega)))) (HA2.out.below (by (repeat' (first | with_reducible exact Below.refl _ _ | (with_reducible refine below_later_of ?_ ?_ _) | (with_reducible refine Below.alloc ?_ ?_ _) | (with_reducible refine Below.setCell ?_ ?_ _) | (with_reducible refine Below.drew ?_) | (simp; done) | (simp; omega) | omega)))) HF.out HN.out).mono ?_); rintro e w' ⟨rfl, hb⟩; obtain ⟨pq, rfl⟩ := later_of_below hb; clear hb))
        all_goals
          go_ret
          exact ⟨rfl, (by (repeat' (first | with_reducible exact Below.refl _ _ | (with_reducible refine below_later_of ?_ ?_ _) | (with_reducible refine Below.alloc ?_ ?_ _) | (with_reducible refine Below.setCell ?_ ?_ _) | (with_reducible refine Below.drew ?_) | (simp; done) | (simp; omega) | omega)))⟩
    · have gn2 : n ≤ 64 := by
        have := listE_two he1
        unfold twoB at this
        simp at this
        omega
      have HF := Lib.hid (show first2 (listE zs) (listE ys) = e2 by rw [he1, he2]; rfl)
      have HN := Lib.hid h2
      have hne : (e2 == 0) = false := by simpa using h2
      have hne2 : (e2 != 0) = true := by simpa using h2
      have heq : (e2 == e2) = true := by simp
      rw [hn] at HV ⊢
      rw [hk] at HU ⊢
      clear he1 he2 h2 gn hn hk
      rcases gk with gk | ⟨gk, gk2⟩
      all_goals
        go_enter Tryd.func5, Tryd.ntmps5
        go_wp2_with (first | (go_at_call 17; (with_reducible refine (awake_any _ (HT.out.below (by (repeat' (first | with_reducible exact Below.refl _ _ | (with_reducible refine below_later_of ?_ ?_ _) | (with_reducible refine Below.alloc ?_ ?_ _) | (with_reducible refine Below.setCell ?_ ?_ _) | (with_reducible refine Below.drew ?_) | (simp; done) | (simp; omega) | omega))))).mono ?_); rintro e w' ⟨rfl, hb⟩; obtain ⟨pp, rfl⟩ := later_of_below hb; clear hb) | (go_at_call 32; (with_reducible refine (copyInts_any zs _ _ (HV.out.below (by (repeat' (first | with_reducible exact Below.refl _ _ | (with_reducible refine below_later_of ?_ ?_ _) | (with_reducible refine Below.alloc ?_ ?_ _) | (with_reducible refine Below.setCell ?_ ?_ _) | (with_reducible refine Below.drew ?_) | (simp; done) | (simp; omega) | omega))))).mono ?_); rintro e w' ⟨a1, c1, rfl, ha, hb⟩; have HA1 := Lib.hid ha; clear ha; obtain ⟨pq, rfl⟩ := later_of_below hb; clear hb) | (go_at_call 32; (with_reducible refine (copyInts_any ys _ _ (HU.out.below (by (repeat' (first | with_reducible exact Below.refl _ _ | (with_reducible refine below_later_of ?_ ?_ _) | (with_reducible refine Below.alloc ?_ ?_ _) | (with_reducible refine Below.setCell ?_ ?_ _) | (with_reducible refine Below.drew ?_) | (simp; done) | (simp; omega) | omega))))).mono ?_); rintro e w' ⟨a2, c2, rfl, ha, hb⟩; have HA2 := Lib.hid ha; clear ha; obtain ⟨pq, rfl⟩ := later_of_below hb; clear hb) | (go_at_call 33; (with_reducible refine (rCheckList zs _ _ (HV.out.below (by (repeat' (first | with_reducible exact Below.refl _ _ | (with_reducible refine below_later_of ?_ ?_ _) | (with_reducible refine Below.alloc ?_ ?_ _) | (with_reducible refine Below.setCell ?_ ?_ _) | (with_reducible refine Below.drew ?_) | (simp; done) | (simp; omega) | omega)))) HE1.out).mono ?_); rintro e w' ⟨rfl, hb⟩; obtain ⟨pq, rfl⟩ := later_of_below hb; clear hb) | (go_at_call 33; (with_reducible refine (rCheckList ys _ _ (HU.out.below (by (repeat' (first | with_reducible exact Below.refl _ _ | (with_reducible refine below_later_of ?_ ?_ _) | (with_reducible refine Below.alloc ?_ ?_ _) | (with_reducible refine Below.setCell ?_ ?_ _) | (with_reducible refine Below.drew ?_) | (simp; done) | (simp; omega) | omega)))) HE2.out).mono ?_); rintro e w' ⟨rfl, hb⟩; obtain ⟨pq, rfl⟩ := later_of_below hb; clear hb) | (go_at_call 31; (with_reducible refine (correlate_bad zs ys _ _ _ (HA1.out.below (by (repeat' (first | with_reducible exact Below.refl _ _ | (with_reducible refine below_later_of ?_ ?_ _) | (with_reducible refine Below.alloc ?_ ?_ _) | (with_reducible refine Below.setCell ?_ ?_ _) | (with_reducible refine Below.drew ?_) | (simp; done) | (simp; omega) | omega)))) (HA2.out.below (by (repeat' (first | with_reducible exact Below.refl _ _ | (with_reducible refine below_later_of ?_ ?_ _) | (with_reducible refine Below.alloc ?_ ?_ _) | (with_reducible refine Below.setCell ?_ ?_ _) | (with_reducible refine Below.drew ?_) | (simp; done) | (simp; omega) | omega)))) HF.out HN.out).mono ?_); rintro e w' ⟨rfl, hb⟩; obtain ⟨pq, rfl⟩ := later_of_below hb; clear hb))
        all_goals
          go_ret
          exact ⟨rfl, (by (repeat' (first | with_reducible exact Below.refl _ _ | (with_reducible refine below_later_of ?_ ?_ _) | (with_reducible refine Below.alloc ?_ ?_ _) | (with_reducible refine Below.setCell ?_ ?_ _) | (with_reducible refine Below.drew ?_) | (simp; done) | (simp; omega) | omega)))⟩
  · have HF := Lib.hid (show first2 (listE zs) (listE ys) = e1 by rw [he1]; unfold first2; rw [if_neg h1])
    have HN := Lib.hid h1
    have hne : (e1 == 0) = false := by simpa using h1
    have hne2 : (e1 != 0) = true := by simpa using h1
    have heq : (e1 == e1) = true := by simp
    rw [hn] at HV ⊢
    rw [hk] at HU ⊢
    clear he1 he2 h1 hn hk
    rcases gn with gn | ⟨gn, gn2⟩
    all_goals
      rcases gk with gk | ⟨gk, gk2⟩
      all_goals
        go_enter Tryd.func5, Tryd.ntmps5
        go_wp2_with (first | (go_at_call 17; (with_reducible refine (awake_any _ (HT.out.below (by (repeat' (first | with_reducible exact Below.refl _ _ | (with_reducible refine below_later_of ?_ ?_ _) | (with_reducible refine Below.alloc ?_ ?_ _) | (with_reducible refine Below.setCell ?_ ?_ _) | (with_reducible refine Below.drew ?_) | (simp; done) | (simp; omega) | omega))))).mono ?_); rintro e w' ⟨rfl, hb⟩; obtain ⟨pp, rfl⟩ := later_of_below hb; clear hb) | (go_at_call 32; (with_reducible refine (copyInts_any zs _ _ (HV.out.below (by (repeat' (first | with_reducible exact Below.refl _ _ | (with_reducible refine below_later_of ?_ ?_ _) | (with_reducible refine Below.alloc ?_ ?_ _) | (with_reducible refine Below.setCell ?_ ?_ _) | (with_reducible refine Below.drew ?_) | (simp; done) | (simp; omega) | omega))))).mono ?_); rintro e w' ⟨a1, c1, rfl, ha, hb⟩; have HA1 := Lib.hid ha; clear ha; obtain ⟨pq, rfl⟩ := later_of_below hb; clear hb) | (go_at_call 32; (with_reducible refine (copyInts_any ys _ _ (HU.out.below (by (repeat' (first | with_reducible exact Below.refl _ _ | (with_reducible refine below_later_of ?_ ?_ _) | (with_reducible refine Below.alloc ?_ ?_ _) | (with_reducible refine Below.setCell ?_ ?_ _) | (with_reducible refine Below.drew ?_) | (simp; done) | (simp; omega) | omega))))).mono ?_); rintro e w' ⟨a2, c2, rfl, ha, hb⟩; have HA2 := Lib.hid ha; clear ha; obtain ⟨pq, rfl⟩ := later_of_below hb; clear hb) | (go_at_call 33; (with_reducible refine (rCheckList zs _ _ (HV.out.below (by (repeat' (first | with_reducible exact Below.refl _ _ | (with_reducible refine below_later_of ?_ ?_ _) | (with_reducible refine Below.alloc ?_ ?_ _) | (with_reducible refine Below.setCell ?_ ?_ _) | (with_reducible refine Below.drew ?_) | (simp; done) | (simp; omega) | omega)))) HE1.out).mono ?_); rintro e w' ⟨rfl, hb⟩; obtain ⟨pq, rfl⟩ := later_of_below hb; clear hb) | (go_at_call 33; (with_reducible refine (rCheckList ys _ _ (HU.out.below (by (repeat' (first | with_reducible exact Below.refl _ _ | (with_reducible refine below_later_of ?_ ?_ _) | (with_reducible refine Below.alloc ?_ ?_ _) | (with_reducible refine Below.setCell ?_ ?_ _) | (with_reducible refine Below.drew ?_) | (simp; done) | (simp; omega) | omega)))) HE2.out).mono ?_); rintro e w' ⟨rfl, hb⟩; obtain ⟨pq, rfl⟩ := later_of_below hb; clear hb) | (go_at_call 31; (with_reducible refine (correlate_bad zs ys _ _ _ (HA1.out.below (by (repeat' (first | with_reducible exact Below.refl _ _ | (with_reducible refine below_later_of ?_ ?_ _) | (with_reducible refine Below.alloc ?_ ?_ _) | (with_reducible refine Below.setCell ?_ ?_ _) | (with_reducible refine Below.drew ?_) | (simp; done) | (simp; omega) | omega)))) (HA2.out.below (by (repeat' (first | with_reducible exact Below.refl _ _ | (with_reducible refine below_later_of ?_ ?_ _) | (with_reducible refine Below.alloc ?_ ?_ _) | (with_reducible refine Below.setCell ?_ ?_ _) | (with_reducible refine Below.drew ?_) | (simp; done) | (simp; omega) | omega)))) HF.out HN.out).mono ?_); rintro e w' ⟨rfl, hb⟩; obtain ⟨pq, rfl⟩ := later_of_below hb; clear hb))
        all_goals
          go_ret
          exact ⟨rfl, (by (repeat' (first | with_reducible exact Below.refl _ _ | (with_reducible refine below_later_of ?_ ?_ _) | (with_reducible refine Below.alloc ?_ ?_ _) | (with_reducible refine Below.setCell ?_ ?_ _) | (with_reducible refine Below.drew ?_) | (simp; done) | (simp; omega) | omega)))⟩
end Go.Proofs.YtakohhlmomgegaaDoor
