/- Chapter 1: the transform of twice as many numbers. -/
import Derived.Test.YtelchmimhnpkaaaU8
import Derived.Deep.CutRange
import Derived.RegionTactic
import Derived.ChangeAlike
import Derived.BigRegion
import Derived.Deep.RegionHeld3
namespace Go.Proofs.Ytelchmimhnpkaaa
set_option linter.unusedVariables false
open Go.RowKit Ntt
/-- The first k numbers of the transform, zeros behind. -/
def outsL (p : Int) (m : Nat) (a : Nat → Int) (r : Int) (n k : Nat) : List Value := (List.range n).map fun j => .int .i64 (if j < k then fft p (m + 1) a r j else 0)
theorem outs_zero (p : Int) (m : Nat) (a : Nat → Int) (r : Int) (n : Nat) : outsL p m a r n 0 = List.replicate n (.int .i64 0) := by
  unfold outsL
  apply List.ext_getElem (by simp)
  intro i h1 h2
  simp
theorem outs_set (p : Int) (m : Nat) (a : Nat → Int) (r : Int) {n k : Nat} (hk : k < n) : (outsL p m a r n k).set k (.int .i64 (fft p (m + 1) a r k)) = outsL p m a r n (k + 1) := by
  unfold outsL
  apply List.ext_getElem (by simp)
  intro i h1 h2
  simp only [List.getElem_set, List.getElem_map, List.getElem_range]
  by_cases e : k = i
  · subst e; rw [if_pos rfl, if_pos (by omega)]
  · rw [if_neg e]
    by_cases c : i < k
    · rw [if_pos c, if_pos (by omega)]
    · rw [if_neg c, if_neg (by omega)]
theorem pwr_bd {r : Int} (k : Nat) : 0 ≤ pwr PP r k ∧ pwr PP r k < 998244353 := by
  cases k with
  | zero => exact ⟨by simp [pwr], by simp [pwr]⟩
  | succ k => exact ⟨Int.emod_nonneg _ (by decide), Int.emod_lt_of_pos _ (by decide)⟩
theorem fft_bd (m : Nat) {a : Nat → Int} (r : Int) (k : Nat) (h : ∀ i, i < 2 ^ m → 0 ≤ a i ∧ a i < 998244353) : 0 ≤ fft PP m a r k ∧ fft PP m a r k < 998244353 := by
  cases m with
  | zero => exact h 0 (by decide)
  | succ m => exact ⟨Int.emod_nonneg _ (by decide), Int.emod_lt_of_pos _ (by decide)⟩
theorem IntsAtF.drew {W : World} {g n : Nat} {f : Nat → Int} (h : IntsAtF W g n f) : IntsAtF W.drew g n f := h
theorem IntsAtF.set {W : World} {g n B k : Nat} {f : Nat → Int} {v : Value} (h : IntsAtF W g n f) (hne : g ≠ B) : IntsAtF (W.setCell ⟨B, k, none⟩ v) g n f :=
  ⟨by simpa using h.1, fun i hi => by
    rw [World.cell?_setCell_other _ _ _ _ (by intro e2; simp at e2 <;> omega)]
    exact h.2 i hi⟩
set_option maxRecDepth 20000 in
set_option maxHeartbeats 4000000 in
theorem transform_two (m : Nat) (ih : TransSpec m) (zs : List Int) (b off cap : Nat) (r : Int) (w : World) (hz : zs.length = 2 ^ (m + 1)) (hl : zs.length ≤ 128) (hr : ∀ k, k < zs.length → 0 ≤ intAt zs k ∧ intAt zs k < 998244353) (r1 : 0 ≤ r) (r2 : r < 998244353) (hbw : b < w.heap.size) (hc : ∀ k, k < zs.length → w.cell? ⟨b, off + k, none⟩ = some (.int .i64 (intAt zs k))) :
    Calls Try.prog 63 #[.slice (some ⟨b, off, none⟩) zs.length cap, .int .i64 r] w (TransPost (m + 1) (intAt zs) r w) := by
  obtain ⟨i0, hi, hz0, hz1, hz2⟩ := info_parts info3
  have hn0 : zs.length = 2 ^ m + 2 ^ m := by rw [hz, Nat.pow_succ]; omega
  have hp0 : 0 < 2 ^ m := Nat.two_pow_pos m
  have h2 : 1 < zs.length := by omega
  have IH := Lib.hid ih
  have HR := Lib.hid hr
  have HZ := Lib.hid hz
  clear ih hr hz
  generalize hN : 2 ^ m = N at hn0 hp0
  have HN := Lib.hid hN
  have hn1 : zs.length ≤ N + N := by omega
  have hn2 : N + N ≤ zs.length := by omega
  clear hN hn0
  have HC := Lib.hid hc
  have hne : ((zs.length : Int) == 1) = false := by simp; omega
  clear hc
  go_enter Try.func63, Try.ntmps63
  go_wp2
  refine wp_worldU (fun W => Halves w w.heap.size 0 (intAt zs) (.slice none 0 0) (.slice none 0 0) W) ⟨by simp [go_sem], by simp [go_sem], by simp [go_sem], by simp [go_sem], World.ownsRow_nil _ _ _ _, World.ownsRow_nil _ _ _ _, fun g h => by simp [Value.ownBlock] at h, (by (repeat' (first | with_reducible exact Below.refl _ _ | (with_reducible refine below_later_of ?_ ?_ _) | (with_reducible refine Below.alloc ?_ ?_ _) | (with_reducible refine Below.setCell ?_ ?_ _) | (with_reducible refine Below.drew ?_) | (simp; done) | (simp; omega) | omega))), by simp⟩ ?_
  rintro W2 hh
  have HH2 := Lib.hid hh
  clear hh
  go_loopw [24] (fun i wr => ∃ (k : Nat) (v0 v1 : Value), k ≤ zs.length ∧ i = .int .i64 k ∧ Halves w w.heap.size k (intAt zs) v0 v1 wr) (fun i _ => zs.length - (intOf i).toNat)
  case atStart => exact ⟨0, _, _, Nat.zero_le _, rfl, HH2.out⟩
  case round =>
    obtain ⟨k, v0, v1, hk, rfl, hh⟩ := hrel
    have HH := Lib.hid hh
    by_cases hlt : k < zs.length
    · have hdk : decide ((k : Int) < (zs.length : Int)) = true := by simp; omega
      have hck := (hh.bel.cell (p := ⟨b, off + k, none⟩) hbw).trans (HC.out k hlt)
      have hlt2 := hh.lt
      by_cases hp : k % 2 = 0
      · have hm : (k : Int) % 2 = 0 := by omega
        have hc0 := hh.c0
        have hf0 := hh.f0
        clear hh hp
        go_wp2_with (first | (at_builtin; refine wpList_append_own_at _ rfl _ _ 38 rfl (w.heap.size + 1) 3 i0 (.int .i64 0) 1 8 Try.underlying38 hi hz0 hz1 hz2 rfl (by decide) _ _ _ rfl (HH.out.o0.alloc _) ⟨wr.heap.size, 0, none⟩ 1 1 [.int .i64 (intAt zs k)] rfl rfl ?c1 ?c2 ?c3 ?c4 ?c5 ?_))
        case c1 =>
          intro j u hj
          rcases j with _ | j
          · simp at hj; subst hj; (first | (simp [Addr.add, go_sem]; done) | simp [Addr.add, go_sem, ↓IntWalk.iteOmega])
          · simp at hj
        case c2 => intro u hu; simp at hu; subst hu; rfl
        case c3 => unfold maxLen; omega
        case c4 => omega
        case c5 => simp; omega
        intro v' w1 hown' hgrow _ hloc
        obtain ⟨g', cc', rfl⟩ := row_slice hown' (by omega)
        have HN := Lib.hid (HH.out.put0 (by omega) hown' hgrow hloc)
        obtain ⟨hcb, -, hfb, -⟩ := HH.out.still hgrow (fun g hg => (HH.out.o0.lt g hg).1)
        clear hown' hgrow hloc
        go_wp2
        go_roundw
        case rel => exact ⟨k + 1, _, v1, by omega, by go_num, HN.out⟩
        case measure => simp [intOf]; omega
      · have hm : (k : Int) % 2 = 1 := by omega
        have hc1 := hh.c1
        have hf1 := hh.f1
        clear hh hp
        go_wp2_with (first | (at_builtin; refine wpList_append_own_at _ rfl _ _ 38 rfl (w.heap.size + 1) 3 i0 (.int .i64 0) 1 8 Try.underlying38 hi hz0 hz1 hz2 rfl (by decide) _ _ _ rfl (HH.out.o1.alloc _) ⟨wr.heap.size, 0, none⟩ 1 1 [.int .i64 (intAt zs k)] rfl rfl ?c1 ?c2 ?c3 ?c4 ?c5 ?_))
        case c1 =>
          intro j u hj
          rcases j with _ | j
          · simp at hj; subst hj; (first | (simp [Addr.add, go_sem]; done) | simp [Addr.add, go_sem, ↓IntWalk.iteOmega])
          · simp at hj
        case c2 => intro u hu; simp at hu; subst hu; rfl
        case c3 => unfold maxLen; omega
        case c4 => omega
        case c5 => simp; omega
        intro v' w1 hown' hgrow _ hloc
        obtain ⟨g', cc', rfl⟩ := row_slice hown' (by omega)
        have HN := Lib.hid (HH.out.put1 (by omega) hown' hgrow hloc)
        obtain ⟨-, hcb, -, hfb⟩ := HH.out.still hgrow (fun g hg => (HH.out.o1.lt g hg).1)
        clear hown' hgrow hloc
        go_wp2
        go_roundw
        case rel => exact ⟨k + 1, v0, _, by omega, by go_num, HN.out⟩
        case measure => simp [intOf]; omega
    · obtain rfl : k = zs.length := by omega
      have hdk : decide ((zs.length : Int) < (zs.length : Int)) = false := by simp
      have hc0 := hh.c0
      have hc1 := hh.c1
      have o0 := hh.o0
      have o1 := hh.o1
      rw [show (zs.length + 1) / 2 = N by omega, ← halfL_hv] at o0
      rw [show zs.length / 2 = N by omega, ← halfL_hv] at o1
      obtain ⟨g0, e0, rfl⟩ := row_slice o0 hp0
      obtain ⟨g1, e1, rfl⟩ := row_slice o1 hp0
      have i0' := intsV_own o0 (by omega)
      have i1' := intsV_own o1 (by omega)
      obtain ⟨m1, m2⟩ := pp_mul r1 r2 r1 r2
      have q1 := Int.emod_nonneg (r * r) (show (998244353 : Int) ≠ 0 by decide)
      have q2 := Int.emod_lt_of_pos (r * r) (show (0 : Int) < 998244353 by decide)
      have hw : (IntKind.i64.wrap (r * r)).tmod 998244353 = r * r % 998244353 := by rw [IntWalk.i64_in _ (by omega), Int.tmod_eq_emod_of_nonneg m1]
      have hin : ∀ p, p < 2 → ∀ k, k < (halfL zs p N).length → 0 ≤ intAt (halfL zs p N) k ∧ intAt (halfL zs p N) k < 998244353 := fun p hp k hk => by
        rw [halfL_len] at hk
        rw [halfL_at _ _ hk]
        exact HR.out _ (by omega)
      have HC1 := Lib.hid (show ∀ w2, Below wr.heap.size wr w2 → Calls Try.prog 63 #[.slice (some ⟨g0, 0, none⟩) N e0, .int .i64 ((IntKind.i64.wrap (r * r)).tmod 998244353)] w2 (TransPost m (intAt (halfL zs 0 N)) (r * r % 998244353) w2) from fun w2 hb => by
        rw [hw]
        exact IH.out _ _ _ w2 (by rw [halfL_len, HN.out]) (i0'.below hb) (hin 0 (by omega)) q1 q2)
      have HC2 := Lib.hid (show ∀ w2, Below wr.heap.size wr w2 → Calls Try.prog 63 #[.slice (some ⟨g1, 0, none⟩) N e1, .int .i64 ((IntKind.i64.wrap (r * r)).tmod 998244353)] w2 (TransPost m (intAt (halfL zs 1 N)) (r * r % 998244353) w2) from fun w2 hb => by
        rw [hw]
        exact IH.out _ _ _ w2 (by rw [halfL_len, HN.out]) (i1'.below hb) (hin 1 (by omega)) q1 q2)
      have HBr := Lib.hid hh.bel
      have hltr := hh.lt
      clear hh o0 o1 i0' i1' hw hin
      go_wp2
      go_cut [9, 10] from 40 to 53 (fun X Y wx => ∃ ge ce go co, X = .slice (some ⟨ge, 0, none⟩) N ce ∧ Y = .slice (some ⟨go, 0, none⟩) N co ∧ IntsAtF wx ge N (fft PP m (intAt (halfL zs 0 N)) (r * r % 998244353)) ∧ IntsAtF wx go N (fft PP m (intAt (halfL zs 1 N)) (r * r % 998244353)) ∧ Below wr.heap.size wr wx)
      case first =>
        go_region_held3 (fun w' => w'.cell? ⟨w.heap.size, 0, none⟩ = some (.slice (some ⟨g0, 0, none⟩) N e0) ∧ w'.cell? ⟨w.heap.size, 1, none⟩ = some (.slice (some ⟨g1, 0, none⟩) N e1)) (first | exact ⟨hc0, hc1⟩ | ((first | (simp [go_sem, hc0, hc1]; done) | simp [go_sem, hc0, hc1, ↓IntWalk.iteOmega]); done)) (first | (go_at_call 63; (with_reducible refine (HC1.out _ (by (repeat' (first | with_reducible exact Below.refl _ _ | (with_reducible refine below_later_of ?_ ?_ _) | (with_reducible refine Below.alloc ?_ ?_ _) | (with_reducible refine Below.setCell ?_ ?_ _) | (with_reducible refine Below.drew ?_) | (simp; done) | (simp; omega) | omega)))).mono ?_); rintro e w' ⟨g, c, rfl, -, hg, -, hb⟩; rw [HN.out]; have HG0 := Lib.hid (HN.out ▸ hg); clear hg; obtain ⟨pp, rfl⟩ := later_of_below hb; clear hb) | (go_at_call 63; (with_reducible refine (HC2.out _ (by (repeat' (first | with_reducible exact Below.refl _ _ | (with_reducible refine below_later_of ?_ ?_ _) | (with_reducible refine Below.alloc ?_ ?_ _) | (with_reducible refine Below.setCell ?_ ?_ _) | (with_reducible refine Below.drew ?_) | (simp; done) | (simp; omega) | omega)))).mono ?_); rintro e w' ⟨g, c, rfl, -, hg, -, hb⟩; rw [HN.out]; have HG1 := Lib.hid (HN.out ▸ hg); clear hg; obtain ⟨pp, rfl⟩ := later_of_below hb; clear hb))
        all_goals
          go_wp2_with fail
          go_meet
          exact ⟨_, _, _, _, rfl, rfl, HG0.out.below (by (repeat' (first | with_reducible exact Below.refl _ _ | (with_reducible refine below_later_of ?_ ?_ _) | (with_reducible refine Below.alloc ?_ ?_ _) | (with_reducible refine Below.setCell ?_ ?_ _) | (with_reducible refine Below.drew ?_) | (simp; done) | (simp; omega) | omega))), HG1.out.below (by (repeat' (first | with_reducible exact Below.refl _ _ | (with_reducible refine below_later_of ?_ ?_ _) | (with_reducible refine Below.alloc ?_ ?_ _) | (with_reducible refine Below.setCell ?_ ?_ _) | (with_reducible refine Below.drew ?_) | (simp; done) | (simp; omega) | omega))), (by (repeat' (first | with_reducible exact Below.refl _ _ | (with_reducible refine below_later_of ?_ ?_ _) | (with_reducible refine Below.alloc ?_ ?_ _) | (with_reducible refine Below.setCell ?_ ?_ _) | (with_reducible refine Below.drew ?_) | (simp; done) | (simp; omega) | omega)))⟩
      case rest =>
        obtain ⟨ge, ce, go, co, rfl, rfl, he, ho, hb⟩ := hcut
        have hsc := hb.size
        have HE := Lib.hid he
        have HO := Lib.hid ho
        have HBc := Lib.hid (HBr.out.trans (hb.mono (by omega)))
        clear he ho hb
        obtain ⟨B, hB⟩ : ∃ B, B = wc.heap.size := ⟨_, rfl⟩
        have hBge : w.heap.size ≤ B := by omega
        have hgeB : ge < B := by rw [hB]; exact HE.out.1
        have hgoB : go < B := by rw [hB]; exact HO.out.1
        go_wp2_with (first | (at_make; refine wpList_make_full _ rfl _ _ 38 rfl wc.heap.size 3 i0 (.int .i64 0) 1 Try.underlying38 hi hz0 hz1 .i64 .i64 _ _ zs.length rfl rfl rfl rfl ?m2 ?m3 ?m4 ?_))
        case m2 => rw [hz2]; omega
        case m3 => unfold maxLen; omega
        case m4 => omega
        intro w1 hown hgrow
        have hb1 : Below wc.heap.size wc w1 := (Below.refl _ _).grown hgrow (Nat.le_refl _) (fun g hg => by cases hg)
        have hos : w1.ownsRow B 3 1 (.slice (some ⟨B, 0, none⟩) zs.length zs.length) zs.length (outsL PP m (intAt zs) r zs.length 0) := by
          rw [hB, outs_zero]; simpa [toList_madeCells_one] using hown
        have HE1 := Lib.hid (HE.out.below hb1)
        have HO1 := Lib.hid (HO.out.below hb1)
        have HB1 := Lib.hid (HBc.out.trans (hb1.mono (by omega)))
        rw [← hB]
        have HEQ := Lib.hid hB
        have hs1 := hb1.size
        have hs2 : B ≤ w1.heap.size := by omega
        clear hB
        have HOS := Lib.hid hos
        clear hown hgrow hb1 hos HE HO HBc hc0 hc1
        go_wp2
        go_loopw [12, 57] (fun p i wr => ∃ k : Nat, k ≤ zs.length ∧ i = .int .i64 k ∧ p = .int .i64 (pwr PP r k) ∧ wr.ownsRow B 3 1 (.slice (some ⟨B, 0, none⟩) zs.length zs.length) zs.length (outsL PP m (intAt zs) r zs.length k) ∧ IntsAtF wr ge N (fft PP m (intAt (halfL zs 0 N)) (r * r % 998244353)) ∧ IntsAtF wr go N (fft PP m (intAt (halfL zs 1 N)) (r * r % 998244353)) ∧ Below w.heap.size w wr) (fun _ i _ => zs.length - (intOf i).toNat)
        case atStart => exact ⟨0, Nat.zero_le _, rfl, rfl, HOS.out, HE1.out, HO1.out, HB1.out⟩
        case round =>
          obtain ⟨k, hk, rfl, rfl, hos, he, ho, hbx⟩ := hrel
          have HOS2 := Lib.hid hos
          have HE2 := Lib.hid he
          have HO2 := Lib.hid ho
          have HB2 := Lib.hid hbx
          by_cases hlt : k < zs.length
          · have hdk : decide ((k : Int) < (zs.length : Int)) = true := by simp; omega
            obtain ⟨j, hj⟩ : ∃ j, k % N = j := ⟨_, rfl⟩
            have hjN : j < N := by rw [← hj]; exact Nat.mod_lt _ hp0
            have hq : (zs.length : Int) / 2 = (N : Int) := by omega
            have hmod : (k : Int) % (N : Int) = (j : Int) := by rw [← Int.natCast_emod, hj]
            have ce := he.2 j hjN
            have co := ho.2 j hjN
            have cb := hos.cellAt k (by omega)
            have fb := hos.frozenAt k
            obtain ⟨pb1, pb2⟩ := pwr_bd (r := r) k
            obtain ⟨eb1, eb2⟩ := fft_bd m (a := intAt (halfL zs 0 N)) (r * r % 998244353) j (fun i hi => by rw [HN.out] at hi; rw [halfL_at _ _ hi]; exact HR.out _ (by omega))
            obtain ⟨ob1, ob2⟩ := fft_bd m (a := intAt (halfL zs 1 N)) (r * r % 998244353) j (fun i hi => by rw [HN.out] at hi; rw [halfL_at _ _ hi]; exact HR.out _ (by omega))
            have hval : (fft PP m (intAt (halfL zs 0 N)) (r * r % 998244353) j + pwr PP r k * fft PP m (intAt (halfL zs 1 N)) (r * r % 998244353) j) % 998244353 = fft PP (m + 1) (intAt zs) r k := by
              conv => rhs; unfold fft
              rw [HN.out, hj, fft_same m (a := fun i => intAt zs (2 * i)) (b := intAt (halfL zs 0 N)) _ _ (fun i hi => by rw [HN.out] at hi; exact (halfL_at zs 0 hi).symm), fft_same m (a := fun i => intAt zs (2 * i + 1)) (b := intAt (halfL zs 1 N)) _ _ (fun i hi => by rw [HN.out] at hi; exact (halfL_at zs 1 hi).symm)]
            have HV := Lib.hid hval
            have hpw : pwr PP r k * r % 998244353 = pwr PP r (k + 1) := rfl
            have HPW := Lib.hid hpw
            have hcs : (outsL PP m (intAt zs) r zs.length k)[k]? = some (.int .i64 0) := by unfold outsL; simp [hlt]
            rw [hcs] at cb
            clear hval hpw hcs
            generalize fft PP m (intAt (halfL zs 0 N)) (r * r % 998244353) j = ev at ce eb1 eb2 HV
            generalize fft PP m (intAt (halfL zs 1 N)) (r * r % 998244353) j = ov at co ob1 ob2 HV
            generalize pwr PP r k = pv at pb1 pb2 HV HPW ⊢
            obtain ⟨mm1, mm2⟩ := pp_mul pb1 pb2 ob1 ob2
            obtain ⟨mm3, mm4⟩ := pp_mul pb1 pb2 r1 r2
            have hlb : k < zs.length := hlt
            clear hos he ho hbx hj
            go_wp2
            go_region
            all_goals
              go_wp2
              go_roundw
              case rel => exact ⟨k + 1, by omega, by go_num, by rw [← HPW.out], by rw [HV.out, ← outs_set _ _ _ _ hlt]; exact (HOS2.out.drew.stored k _).1, HE2.out.drew.set (by omega), HO2.out.drew.set (by omega), HB2.out.trans (by (repeat' (first | with_reducible exact Below.refl _ _ | (with_reducible refine below_later_of ?_ ?_ _) | (with_reducible refine Below.alloc ?_ ?_ _) | (with_reducible refine Below.setCell ?_ ?_ _) | (with_reducible refine Below.drew ?_) | (simp; done) | (simp; omega) | omega)))⟩
              case measure => simp [intOf]; omega
          · obtain rfl : k = zs.length := by omega
            have hdk : decide ((zs.length : Int) < (zs.length : Int)) = false := by simp
            clear hos he ho hbx
            go_wp2
            go_ret
            refine ⟨B, zs.length, ?_, hBge, ⟨?_, fun k hk => ?_⟩, fun k hk => HOS2.out.frozenAt k, HB2.out⟩
            · rw [← HZ.out]; rfl
            · exact (HOS2.out.lt B rfl).2
            · rw [HOS2.out.cellAt k (by rw [HZ.out]; omega)]
              unfold outsL
              rw [← HZ.out] at hk
              simp [hk]
set_option maxHeartbeats 400000 in
theorem transform_zero : TransSpec 0 := fun zs v r w hz hv hr r1 r2 => by
  obtain ⟨hl, a, cap, rfl, h4⟩ := hv
  obtain ⟨b, off, rfl, hbw, hc⟩ := h4 (by rw [hz]; decide)
  have c0 := hc 0 (by rw [hz]; decide)
  rw [Nat.add_zero] at c0
  have hz1 : zs.length = 1 := hz
  have HP := Lib.hid (show ∀ g w', g = w.heap.size → w' = w.alloc (.cells #[.int .i64 (intAt zs 0)] 3) → TransPost 0 (intAt zs) r w (.returned (.slice (some ⟨g, 0, none⟩) 1 1)) w' from fun g w' hg hw => by
    subst hg hw
    refine ⟨w.heap.size, 1, rfl, Nat.le_refl _, ⟨by simp, fun k hk => ?_⟩, fun k hk => ?_, (Below.refl _ _).alloc (Nat.le_refl _) _⟩
    · obtain rfl : k = 0 := by simpa using hk
      exact World.cell?_alloc_new _ _ _ _
    · simp [go_sem])
  have hd : ((zs.length : Int) == 1) = true := by rw [hz1]; rfl
  have hlt : 0 < zs.length := by omega
  clear hc hz hz1 h4
  go_enter Try.func63, Try.ntmps63
  go_wp2
  go_ret
  exact HP.out _ _ rfl rfl
theorem transform_spec : ∀ m, m ≤ 7 → TransSpec m
  | 0, _ => transform_zero
  | m + 1, h => fun zs v r w hz hv hr r1 r2 => by
    have hp : 2 ^ (m + 1) ≤ 2 ^ 7 := Nat.pow_le_pow_right (by decide) h
    obtain ⟨hl, a, cap, rfl, h4⟩ := hv
    obtain ⟨b, off, rfl, hbw, hc⟩ := h4 (by rw [hz]; exact Nat.two_pow_pos _)
    exact transform_two m (transform_spec m (by omega)) zs b off cap r w hz (by omega) hr r1 r2 hbw hc
end Go.Proofs.Ytelchmimhnpkaaa
