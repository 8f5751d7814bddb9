/- Chapter 1: the reference's Correlate. -/
import Derived.Test.YtakohhlmomgegaaDoorU75
namespace Go.Proofs.YtakohhlmomgegaaDoor
set_option linter.unusedVariables false
set_option linter.unusedSimpArgs false
open Go.RowKit Ntt
/-- The correlation, as a list. -/
def crL (zs ys : List Int) : List Int := (List.range zs.length).map fun s => corr zs.length (intAt zs) (intAt ys) s % PP
theorem crL_len (zs ys : List Int) : (crL zs ys).length = zs.length := by simp [crL]
set_option maxRecDepth 20000 in
set_option maxHeartbeats 2000000 in
theorem rCorrelate (zs ys : List Int) (v u : Value) (w : World) (h0 : 0 < zs.length) (hl : zs.length ≤ 128) (hly : ys.length = zs.length) (hv : IntsV w v zs) (hu : IntsV w u ys) (hr : ∀ k, k < zs.length → 0 ≤ intAt zs k ∧ intAt zs k < 998244353) (hr2 : ∀ k, k < ys.length → 0 ≤ intAt ys k ∧ intAt ys k < 998244353) :
    Calls Tryd.prog 35 #[v, u] w (ListPost (crL zs ys) w) := by
  obtain ⟨i0, hi, hz0, hz1, hz2⟩ := info_parts info3
  obtain ⟨hle, a, cap, rfl, h4⟩ := hv
  obtain ⟨b, off, rfl, hbw, hc⟩ := h4 h0
  obtain ⟨hle2, a', cap', rfl, h4'⟩ := hu
  obtain ⟨b', off', rfl, hbw', hc'⟩ := h4' (by omega)
  obtain ⟨F, hF⟩ : ∃ F : Nat → Int, F = fun s => corr zs.length (intAt zs) (intAt ys) s % PP := ⟨_, rfl⟩
  have HF := Lib.hid (show ∀ s, corS zs.length (intAt zs) (intAt ys) s zs.length = F s from fun s => by rw [hF, corS_eq]; rfl)
  have HG := Lib.hid (show ∀ (W : World) (g c : Nat), OwnF W g zs.length F → IntsV W (.slice (some ⟨g, 0, none⟩) zs.length c) (crL zs ys) from fun _ _ _ h => by unfold crL; rw [← hF]; exact intsV_of h (by omega))
  have HLN := Lib.hid (crL_len zs ys)
  have HC := Lib.hid hc
  have HC' := Lib.hid hc'
  have HR := Lib.hid hr
  have HR2 := Lib.hid hr2
  clear h4 hc hr h4' hc' hr2 hF
  obtain ⟨n, hn⟩ : ∃ n, zs.length = n := ⟨_, rfl⟩
  rw [hly]
  rw [hn] at h0 hl hly HF HG HC HR HLN ⊢
  rw [hly] at HC' HR2
  clear hly hle hle2 hn
  go_enter Tryd.func35, Tryd.ntmps35
  go_wp2
  go_loopw [5, 6] (fun v i wr => ∃ k : Nat, k ≤ n ∧ i = .int .i64 k ∧ wr.ownsRow w.heap.size 3 1 v k (fv F k) ∧ Below w.heap.size w wr) (fun _ i _ => n - (intOf i).toNat)
  case atStart => exact ⟨0, Nat.zero_le _, rfl, World.ownsRow_nil _ _ _ _, (by (repeat' (first | with_reducible exact Below.refl _ _ | (with_reducible refine below_later_of ?_ ?_ _) | (with_reducible refine Below.alloc ?_ ?_ _) | (with_reducible refine Below.setCell ?_ ?_ _) | (with_reducible refine Below.drew ?_) | (simp; done) | (simp; omega) | omega)))⟩
  case round =>
    obtain ⟨s, hs, rfl, hs0, hb0⟩ := hrel
    have HS := Lib.hid hs0
    have HB := Lib.hid hb0
    clear hs0 hb0
    by_cases hlt : s < n
    · have hdk : decide ((s : Int) < (n : Int)) = true := by simp; omega
      go_wp2
      go_loopw [7, 8] (fun x i wz => ∃ k : Nat, k ≤ n ∧ i = .int .i64 k ∧ x = .int .i64 (corS n (intAt zs) (intAt ys) s k) ∧ wz.ownsRow w.heap.size 3 1 u5 s (fv F s) ∧ Below w.heap.size w wz) (fun _ i _ => n - (intOf i).toNat)
      case atStart => exact ⟨0, Nat.zero_le _, rfl, rfl, HS.out, HB.out⟩
      case round =>
        obtain ⟨k, hk, rfl, rfl, hs2, hb2⟩ := hrel
        have HS2 := Lib.hid hs2
        have HB2 := Lib.hid hb2
        by_cases hlk : k < n
        · have hdj : decide ((k : Int) < (n : Int)) = true := by simp; omega
          obtain ⟨j, hj⟩ : ∃ j, (s + k) % n = j := ⟨_, rfl⟩
          have hjn : j < n := by rw [← hj]; exact Nat.mod_lt _ h0
          have hmod : ((s : Int) + (k : Int)) % (n : Int) = (j : Int) := by rw [← hj, Int.natCast_emod, Int.natCast_add]
          have ca := (hb2.cell (p := ⟨b, off + j, none⟩) hbw).trans (HC.out j hjn)
          have cb := (hb2.cell (p := ⟨b', off' + k, none⟩) hbw').trans (HC'.out k hlk)
          have HV := Lib.hid (show (corS n (intAt zs) (intAt ys) s k + intAt zs j * intAt ys k) % 998244353 = corS n (intAt zs) (intAt ys) s (k + 1) by rw [← hj]; rfl)
          obtain ⟨x1, x2⟩ := corS_bd n (intAt zs) (intAt ys) s k
          obtain ⟨a1, a2⟩ := HR.out j hjn
          obtain ⟨b1, b2⟩ := HR2.out k hlk
          generalize corS n (intAt zs) (intAt ys) s k = x at x1 x2 HV ⊢
          generalize intAt zs j = y at ca a1 a2 HV
          generalize intAt ys k = z at cb b1 b2 HV
          obtain ⟨m1, m2⟩ := pp_mul a1 a2 b1 b2
          clear hs2 hb2 hj
          go_wp2
          go_region
          all_goals
            go_wp2
            go_roundw
            case rel => exact ⟨k + 1, by omega, by go_num, by rw [← HV.out], HS2.out.drew, HB2.out.drew⟩
            case measure => simp [intOf]; omega
        · obtain rfl : k = n := by omega
          have hdj : decide ((k : Int) < (k : Int)) = false := by simp
          rw [HF.out s]
          obtain ⟨xv, hxv⟩ : ∃ xv, F s = xv := ⟨_, rfl⟩
          have HXV := Lib.hid hxv
          rw [hxv]
          clear hxv hs2 hb2
          go_wp2_with (first | (at_builtin; refine wpList_append_own _ rfl _ _ 53 rfl w.heap.size 3 i0 (.int .i64 0) 1 8 Tryd.underlying53 hi hz0 hz1 hz2 rfl (by decide) _ _ _ rfl (HS2.out.alloc _) ⟨wr.heap.size, 0, none⟩ 1 1 [.int .i64 xv] rfl rfl ?d1 ?d2 ?d3 ?d4 ?d5 ?_))
          case d1 =>
            intro j u hj
            rcases j with _ | j
            · simp at hj; subst hj; (first | (simp [Addr.add, go_sem]; done) | simp [Addr.add, go_sem, ↓IntWalk.iteOmega])
            · simp at hj
          case d2 => first | rfl | (intro u hu; simp at hu; subst hu; rfl)
          case d3 => unfold maxLen; omega
          case d4 => omega
          case d5 => have := HB2.out.size; simp; omega
          intro v' w1 hown' hgrow _
          obtain ⟨g', cc', rfl⟩ := row_slice hown' (by omega)
          have HN := Lib.hid (show w1.ownsRow w.heap.size 3 1 (.slice (some ⟨g', 0, none⟩) (s + 1) cc') (s + 1) (fv F (s + 1)) by rw [fv_snoc, HXV.out]; exact hown')
          have HBN := Lib.hid (show Below w.heap.size w w1 from ((HB2.out).alloc (by have := HB2.out.size; omega) _).grown hgrow (by have := HB2.out.size; simp; omega) (fun g hg => (HS2.out.lt g hg).1))
          clear hown' hgrow
          go_wp2
          go_roundw
          case rel => exact ⟨s + 1, by omega, by go_num, HN.out, HBN.out⟩
          case measure => simp [intOf]; omega
    · obtain rfl : s = n := by omega
      have hdk : decide ((s : Int) < (s : Int)) = false := by simp
      obtain ⟨g, c, rfl⟩ := row_slice HS.out h0
      go_wp2
      go_ret
      obtain ⟨hg, ho⟩ := ownF_fv HS.out
      exact listPost_of HLN.out (HG.out _ _ _ ho) HB.out
end Go.Proofs.YtakohhlmomgegaaDoor
