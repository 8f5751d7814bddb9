/- Chapter 1: the reference's lists: Sums, Transform, Inverse, Correlate. -/
import Derived.Test.YtakohhlmomgegaaDoorU73
namespace Go.Proofs.YtakohhlmomgegaaDoor
set_option linter.unusedVariables false
set_option linter.unusedSimpArgs false
open Go.RowKit Ntt
/-- The first k numbers of f. -/
def fv (f : Nat → Int) (k : Nat) : List Value := (List.range k).map fun j => .int .i64 (f j)
theorem fv_snoc (f : Nat → Int) (k : Nat) : fv f (k + 1) = fv f k ++ [.int .i64 (f k)] := by unfold fv; rw [List.range_succ, List.map_append]; rfl
theorem ownF_fv {W : World} {base g n c : Nat} {f : Nat → Int} (h : W.ownsRow base 3 1 (.slice (some ⟨g, 0, none⟩) n c) n (fv f n)) : base ≤ g ∧ OwnF W g n f :=
  ⟨(h.lt g rfl).1, ⟨(h.lt g rfl).2, fun k hk => by
    rw [h.cellAt k (by omega)]
    unfold fv
    simp [hk]⟩, fun k _ => h.frozenAt k⟩
set_option maxRecDepth 20000 in
set_option maxHeartbeats 2000000 in
theorem rSums (zs : List Int) (v : Value) (r : Int) (w : World) (h0 : 0 < zs.length) (hl : zs.length ≤ 128) (hv : IntsV w v zs) (hr : ∀ k, k < zs.length → 0 ≤ intAt zs k ∧ intAt zs k < 998244353) (r1 : 0 ≤ r) (r2 : r < 998244353) :
    Calls Tryd.prog 97 #[v, .int .i64 r] w (OwnPost zs.length (fun k => (sumS (intAt zs) (powM r k) zs.length).1) w) := by
  obtain ⟨i0, hi, hz0, hz1, hz2⟩ := info_parts info3
  obtain ⟨hle, a, cap, rfl, h4⟩ := hv
  obtain ⟨b, off, rfl, hbw, hc⟩ := h4 h0
  have HC := Lib.hid hc
  have HR := Lib.hid hr
  have HF := Lib.hid (show ∀ j, (fun k => (sumS (intAt zs) (powM r k) zs.length).1) j = (sumS (intAt zs) (powM r j) zs.length).1 from fun _ => rfl)
  clear h4 hc hr
  generalize (fun k => (sumS (intAt zs) (powM r k) zs.length).1) = F at HF ⊢
  go_enter Tryd.func97, Tryd.ntmps97
  go_wp2
  go_loopw [5, 6] (fun v i wr => ∃ k : Nat, k ≤ zs.length ∧ i = .int .i64 k ∧ wr.ownsRow w.heap.size 3 1 v k (fv F k) ∧ Below w.heap.size w wr) (fun _ i _ => zs.length - (intOf i).toNat)
  case atStart => exact ⟨0, Nat.zero_le _, rfl, World.ownsRow_nil _ _ _ _, (by (repeat' (first | with_reducible exact Below.refl _ _ | (with_reducible refine below_later_of ?_ ?_ _) | (with_reducible refine Below.alloc ?_ ?_ _) | (with_reducible refine Below.setCell ?_ ?_ _) | (with_reducible refine Below.drew ?_) | (simp; done) | (simp; omega) | omega)))⟩
  case round =>
    obtain ⟨k, hk, rfl, hs, hb⟩ := hrel
    have HS := Lib.hid hs
    have HB := Lib.hid hb
    by_cases hlt : k < zs.length
    · have hdk : decide ((k : Int) < (zs.length : Int)) = true := by simp; omega
      have HPO := Lib.hid (fun w => rPower r k w r1 r2 (by omega))
      obtain ⟨s1, s2⟩ := (show 0 ≤ powM r k ∧ powM r k < 998244353 from powM_bd r k)
      obtain ⟨s, hs0⟩ : ∃ s, powM r k = s := ⟨_, rfl⟩
      have HFK := Lib.hid (HF.out k)
      rw [hs0] at HPO s1 s2 HFK
      have HCW := Lib.hid (show ∀ j, j < zs.length → wr.cell? ⟨b, off + j, none⟩ = some (.int .i64 (intAt zs j)) from fun j hj => (hb.cell (p := ⟨b, off + j, none⟩) hbw).trans (HC.out j hj))
      clear hs hb hs0
      go_wp2_with (first | (go_at_call 98; (with_reducible refine (HPO.out _).mono ?_); rintro e w' ⟨rfl, rfl⟩))
      go_loop [7, 9, 10] (fun x p i => ∃ j : Nat, j ≤ zs.length ∧ i = .int .i64 j ∧ x = .int .i64 (sumS (intAt zs) s j).1 ∧ p = .int .i64 (sumS (intAt zs) s j).2) (fun _ _ i => zs.length - (intOf i).toNat)
      case atStart => exact ⟨0, Nat.zero_le _, rfl, rfl, rfl⟩
      case round =>
        obtain ⟨j, hj, rfl, rfl, rfl⟩ := hrel
        obtain ⟨⟨x1, x2⟩, p1, p2⟩ := sumS_bd (intAt zs) s j
        by_cases hlj : j < zs.length
        · have hdj : decide ((j : Int) < (zs.length : Int)) = true := by simp; omega
          have cj := HCW.out j hlj
          obtain ⟨a1, a2⟩ := HR.out j hlj
          have HV := Lib.hid (show (((sumS (intAt zs) s j).1 + intAt zs j * (sumS (intAt zs) s j).2) % 998244353, (sumS (intAt zs) s j).2 * s % 998244353) = sumS (intAt zs) s (j + 1) from rfl)
          generalize (sumS (intAt zs) s j).1 = x at x1 x2 HV ⊢
          generalize (sumS (intAt zs) s j).2 = p at p1 p2 HV ⊢
          generalize intAt zs j = y at cj a1 a2 HV
          obtain ⟨m1, m2⟩ := pp_mul a1 a2 p1 p2
          obtain ⟨m3, m4⟩ := pp_mul p1 p2 s1 s2
          go_wp2
          go_round
          case rel => exact ⟨j + 1, by omega, by go_num, by rw [← HV.out], by rw [← HV.out]⟩
          case measure => simp [intOf]; omega
        · obtain rfl : j = zs.length := by omega
          have hdj : decide ((zs.length : Int) < (zs.length : Int)) = false := by simp
          rw [← HFK.out]
          obtain ⟨xv, hxv⟩ : ∃ xv, F k = xv := ⟨_, rfl⟩
          have HXV := Lib.hid hxv
          rw [hxv]
          clear hxv x1 x2 p1 p2
          go_wp2_with (first | (at_builtin; refine wpList_append_own _ rfl _ _ 53 rfl w.heap.size 3 i0 (.int .i64 0) 1 8 Tryd.underlying53 hi hz0 hz1 hz2 rfl (by decide) _ _ _ rfl (HS.out.alloc _) ⟨wr.heap.size, 0, none⟩ 1 1 [.int .i64 xv] rfl rfl ?d1 ?d2 ?d3 ?d4 ?d5 ?_))
          case d2 => first | rfl | (intro u hu; simp at hu; subst hu; rfl)
          case d3 => unfold maxLen; omega
          case d4 => omega
          case d5 => have := HB.out.size; omega
          intro v' w1 hown' hgrow _
          obtain ⟨g', cc', rfl⟩ := row_slice hown' (by omega)
          have HN := Lib.hid (show w1.ownsRow w.heap.size 3 1 (.slice (some ⟨g', 0, none⟩) (k + 1) cc') (k + 1) (fv F (k + 1)) by rw [fv_snoc, HXV.out]; exact hown')
          have HBN := Lib.hid (show Below w.heap.size w w1 from ((HB.out).alloc (by have := HB.out.size; omega) _).grown hgrow (by have := HB.out.size; simp; omega) (fun g hg => (HS.out.lt g hg).1))
          clear hown' hgrow
          go_wp2
          go_roundw
          case rel => exact ⟨k + 1, by omega, by go_num, HN.out, HBN.out⟩
          case measure => simp [intOf]; omega
    · obtain rfl : k = zs.length := by omega
      have hdk : decide ((zs.length : Int) < (zs.length : Int)) = false := by simp
      obtain ⟨g, c, rfl⟩ := row_slice hs h0
      clear hs hb
      go_wp2
      go_ret
      obtain ⟨hg, ho⟩ := ownF_fv HS.out
      exact ⟨g, c, rfl, hg, ho, HB.out⟩
theorem sums_fft (m : Nat) (hm : m ≤ 7) (zs : List Int) (r : Int) (hz : zs.length = 2 ^ m) (hr : ∀ k, k < zs.length → 0 ≤ intAt zs k ∧ intAt zs k < 998244353) (h1 : Cg PP (r ^ (2 ^ m)) 1) {k : Nat} (hk : k < zs.length) :
    (sumS (intAt zs) (powM r k) zs.length).1 = fft PP m (intAt zs) r k := by
  rw [hz] at hr hk ⊢
  have hp : 2 ^ m ≤ 2 ^ 7 := Nat.pow_le_pow_right (by decide) hm
  exact sumS_fft m _ h1 hr (by omega)
theorem rSums_fft (m : Nat) (hm : m ≤ 7) (zs : List Int) (v : Value) (r : Int) (w : World) (hz : zs.length = 2 ^ m) (hv : IntsV w v zs) (he : listE zs = 0) (r1 : 0 ≤ r) (r2 : r < 998244353) (h1 : Cg PP (r ^ (2 ^ m)) 1) :
    Calls Tryd.prog 97 #[v, .int .i64 r] w (OwnPost zs.length (fft PP m (intAt zs) r) w) := by
  have hr := (listE_ok he).2
  have hp : 2 ^ m ≤ 2 ^ 7 := Nat.pow_le_pow_right (by decide) hm
  have hp0 : 0 < zs.length := by rw [hz]; exact Nat.two_pow_pos m
  refine (rSums zs v r w hp0 (by omega) hv hr r1 r2).mono ?_
  rintro e w' ⟨g, c, rfl, hg, ho, hb⟩
  exact ⟨g, c, rfl, hg, ho.same (fun k hk => sums_fft m hm zs r hz hr h1 hk), hb⟩
theorem listPost_of {xs : List Int} {n g c : Nat} {w w' : World} (hl : xs.length = n) (h : IntsV w' (.slice (some ⟨g, 0, none⟩) n c) xs) (hb : Below w.heap.size w w') : ListPost xs w (.returned (.slice (some ⟨g, 0, none⟩) n c)) w' := by
  subst hl
  exact ⟨_, c, rfl, h, hb⟩
set_option maxHeartbeats 400000 in
theorem rTransform (m : Nat) (hm : m ≤ 7) (zs : List Int) (v : Value) (w : World) (hz : zs.length = 2 ^ m) (hv : IntsV w v zs) (he : listE zs = 0) :
    Calls Tryd.prog 38 #[v] w (ListPost (trL m zs) w) := by
  have hp : 2 ^ m ≤ 2 ^ 7 := Nat.pow_le_pow_right (by decide) hm
  have hp0 : 0 < zs.length := by rw [hz]; exact Nat.two_pow_pos m
  have hl : zs.length ≤ 128 := by omega
  have hq : 998244352 / zs.length < 2147483648 := by have := Nat.div_le_self 998244352 zs.length; omega
  obtain ⟨rb1, rb2⟩ := powM_bd 3 (998244352 / zs.length)
  have HPO := Lib.hid (show ∀ w, Calls Tryd.prog 98 #[.int .i64 3, .int .i64 (998244352 / (zs.length : Int))] w fun e w' => e = .returned (.int .i64 (rootM zs.length)) ∧ w = w' from fun w => by
    have := rPower 3 (998244352 / zs.length) w (by decide) (by decide) hq
    rw [Int.natCast_ediv] at this
    exact this)
  have R := roots m hm
  rw [← hz] at R
  have HSU := Lib.hid (show ∀ w2, Below w.heap.size w w2 → Calls Tryd.prog 97 #[v, .int .i64 (rootM zs.length)] w2 _ from fun w2 hb => rSums_fft m hm zs v _ w2 hz (hv.below hb) he rb1 rb2 R.one)
  have HG := Lib.hid (show ∀ (W : World) (g c : Nat), OwnF W g zs.length (fft PP m (intAt zs) (rootM zs.length)) → IntsV W (.slice (some ⟨g, 0, none⟩) zs.length c) (trL m zs) from fun _ _ _ h => by exact intsV_of h (by omega))
  have HLN := Lib.hid (trL_len m zs)
  obtain ⟨hle, a, cap, rfl, -⟩ := hv
  clear hz hp hq rb1 rb2 he R
  go_enter Tryd.func38, Tryd.ntmps38
  go_wp2_with (first | (go_at_call 98; (with_reducible refine (HPO.out _).mono ?_); rintro e w' ⟨rfl, rfl⟩) | (go_at_call 97; (with_reducible refine (HSU.out _ (by (repeat' (first | with_reducible exact Below.refl _ _ | (with_reducible refine below_later_of ?_ ?_ _) | (with_reducible refine Below.alloc ?_ ?_ _) | (with_reducible refine Below.setCell ?_ ?_ _) | (with_reducible refine Below.drew ?_) | (simp; done) | (simp; omega) | omega)))).mono ?_); rintro e w' ⟨g, c, rfl, hgb, ho, hb⟩; have HO := Lib.hid ho; clear ho; have HB := Lib.hid hb; clear hb))
  go_ret
  exact listPost_of HLN.out (HG.out _ _ _ HO.out) HB.out
set_option maxRecDepth 20000 in
set_option maxHeartbeats 1000000 in
theorem rInverse (m : Nat) (hm : m ≤ 7) (zs : List Int) (v : Value) (w : World) (hz : zs.length = 2 ^ m) (hv : IntsV w v zs) (he : listE zs = 0) :
    Calls Tryd.prog 39 #[v] w (ListPost (bkL m zs) w) := by
  have hr := (listE_ok he).2
  have hp : 2 ^ m ≤ 2 ^ 7 := Nat.pow_le_pow_right (by decide) hm
  have hp0 : 0 < zs.length := by rw [hz]; exact Nat.two_pow_pos m
  have hl : zs.length ≤ 128 := by omega
  have hq : 998244352 / zs.length < 2147483648 := by have := Nat.div_le_self 998244352 zs.length; omega
  obtain ⟨rb1, rb2⟩ := powM_bd 3 (998244352 / zs.length)
  obtain ⟨ib1, ib2⟩ := powM_bd (rootM zs.length) 998244351
  have hnb : 0 ≤ invM (zs.length : Int) ∧ invM (zs.length : Int) < 998244353 := powM_bd (zs.length : Int) 998244351
  obtain ⟨nb1, nb2⟩ := hnb
  have HP1 := Lib.hid (show ∀ w, Calls Tryd.prog 98 #[.int .i64 3, .int .i64 (998244352 / (zs.length : Int))] w fun e w' => e = .returned (.int .i64 (rootM zs.length)) ∧ w = w' from fun w => by
    have := rPower 3 (998244352 / zs.length) w (by decide) (by decide) hq
    rw [Int.natCast_ediv] at this
    exact this)
  have HP2 := Lib.hid (show ∀ w, Calls Tryd.prog 98 #[.int .i64 (rootM zs.length), .int .i64 998244351] w fun e w' => e = .returned (.int .i64 (invM (rootM zs.length))) ∧ w = w' from fun w => rPower (rootM zs.length) 998244351 w rb1 rb2 (by decide))
  have HP3 := Lib.hid (show ∀ w, Calls Tryd.prog 98 #[.int .i64 (zs.length : Int), .int .i64 998244351] w fun e w' => e = .returned (.int .i64 (invM (zs.length : Int))) ∧ w = w' from fun w => rPower (zs.length : Int) 998244351 w (by omega) (by omega) (by decide))
  have R := (roots m hm).swap
  rw [← hz] at R
  have HSU := Lib.hid (show ∀ w2, Below w.heap.size w w2 → Calls Tryd.prog 97 #[v, .int .i64 (invM (rootM zs.length))] w2 _ from fun w2 hb => rSums_fft m hm zs v _ w2 hz (hv.below hb) he ib1 ib2 R.one)
  have HG := Lib.hid (show ∀ (W : World) (g c : Nat), OwnF W g zs.length (backP zs.length m (intAt zs)) → IntsV W (.slice (some ⟨g, 0, none⟩) zs.length c) (bkL m zs) from fun _ _ _ h => by exact intsV_of h (by omega))
  have HLN := Lib.hid (bkL_len m zs)
  have HFB := Lib.hid (fun k => fft_bd m (a := intAt zs) (invM (rootM zs.length)) k (fun i hi => hr i (by omega)))
  obtain ⟨hle, a, cap, rfl, -⟩ := hv
  clear hr hz hp hq rb1 rb2 ib1 ib2 he R
  go_enter Tryd.func39, Tryd.ntmps39
  go_wp2_with (first | (go_at_call 98; (with_reducible refine (HP1.out _).mono ?_); rintro e w' ⟨rfl, rfl⟩) | (go_at_call 98; (with_reducible refine (HP2.out _).mono ?_); rintro e w' ⟨rfl, rfl⟩) | (go_at_call 98; (with_reducible refine (HP3.out _).mono ?_); rintro e w' ⟨rfl, rfl⟩) | (go_at_call 97; (with_reducible refine (HSU.out _ (by (repeat' (first | with_reducible exact Below.refl _ _ | (with_reducible refine below_later_of ?_ ?_ _) | (with_reducible refine Below.alloc ?_ ?_ _) | (with_reducible refine Below.setCell ?_ ?_ _) | (with_reducible refine Below.drew ?_) | (simp; done) | (simp; omega) | omega)))).mono ?_); rintro e w' ⟨g, c, rfl, hgb, ho, hb⟩; have HO := Lib.hid ho; clear ho; have HB := Lib.hid hb; clear hb))
  have hfs : ∀ k, 0 ≤ fft PP m (intAt zs) (invM (rootM zs.length)) k ∧ fft PP m (intAt zs) (invM (rootM zs.length)) k < 998244353 := HFB.out
  go_loopw [6] (fun i wr => ∃ k : Nat, k ≤ zs.length ∧ i = .int .i64 k ∧ OwnF wr g zs.length (fun j => if j < k then backP zs.length m (intAt zs) j else fft PP m (intAt zs) (invM (rootM zs.length)) j) ∧ Below w.heap.size w wr) (fun i _ => zs.length - (intOf i).toNat)
  case atStart => exact ⟨0, Nat.zero_le _, rfl, HO.out.same (fun j _ => by simp), HB.out⟩
  case round =>
    obtain ⟨k, hk, rfl, ho, hbx⟩ := hrel
    have HO := Lib.hid ho
    have HBX := Lib.hid hbx
    by_cases hlt : k < zs.length
    · have hdk : decide ((k : Int) < (zs.length : Int)) = true := by simp; omega
      have ck := ho.1.2 k hlt
      simp only [Nat.lt_irrefl, if_false] at ck
      have fk := ho.2 k hlt
      obtain ⟨e1, e2⟩ := hfs k
      have HV := Lib.hid (show fft PP m (intAt zs) (invM (rootM zs.length)) k * invM zs.length % 998244353 = backP zs.length m (intAt zs) k from rfl)
      generalize fft PP m (intAt zs) (invM (rootM zs.length)) k = ev at ck e1 e2 HV
      obtain ⟨m1, m2⟩ := pp_mul e1 e2 nb1 nb2
      clear ho hbx hfs
      go_wp2
      go_roundw
      case rel => exact ⟨k + 1, by omega, by go_num, HO.out.set hlt (fun j hj => by
        by_cases e : j = k
        · subst e; rw [if_pos (by omega), if_pos rfl, HV.out]
        · rw [if_neg e]
          by_cases c : j < k
          · rw [if_pos c, if_pos (by omega)]
          · rw [if_neg c, if_neg (by omega)]), HBX.out.trans (by (repeat' (first | with_reducible exact Below.refl _ _ | (with_reducible refine below_later_of ?_ ?_ _) | (with_reducible refine Below.alloc ?_ ?_ _) | (with_reducible refine Below.setCell ?_ ?_ _) | (with_reducible refine Below.drew ?_) | (simp; done) | (simp; omega) | omega)))⟩
      case measure => simp [intOf]; omega
    · obtain rfl : k = zs.length := by omega
      have hdk : decide ((zs.length : Int) < (zs.length : Int)) = false := by simp
      clear ho hbx hfs
      go_wp2
      go_ret
      exact listPost_of HLN.out (HG.out _ _ _ (HO.out.same (fun j hj => if_pos hj))) HBX.out
end Go.Proofs.YtakohhlmomgegaaDoor
