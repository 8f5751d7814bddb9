/- Chapter 1's door seat: the law EchoByTransforms returns true. -/
import Derived.Test.YtakohhlmomgegaaDoorQ10
import Derived.Test.YtakohhlmomgegaaDoorU72
import Derived.Test.YtakohhlmomgegaaDoorU93
import Derived.Deep.AppendLies
import Derived.Deep.RegionLaw
namespace Go.Proofs.YtakohhlmomgegaaDoor
set_option linter.unusedVariables false
set_option linter.unusedSimpArgs false
open Go.RowKit Ntt
theorem calls_worldB {P : Program} {n : FuncId} {args : Array Value} {Q : Ending → World → Prop} {w : World} (F : World → Prop) (hf : F w) (h : ∀ W, F W → Calls P n args W Q) : Calls P n args w Q := h w hf
/-- Is one of the first k parts not 0? -/
def someU (U : Nat → Int) (k : Nat) : Bool := (List.range k).any fun j => U j != 0
theorem someU_succ (U : Nat → Int) (k : Nat) : someU U (k + 1) = (someU U k || (U k != 0)) := by
  unfold someU
  rw [List.range_succ, List.any_append]
  simp
theorem someU_ex {U : Nat → Int} {k : Nat} (h : someU U k = true) : ∃ j, j < k ∧ U j ≠ 0 := by
  unfold someU at h
  rw [List.any_eq_true] at h
  obtain ⟨j, hj0, hj⟩ := h
  simp at hj hj0
  exact ⟨j, hj0, hj⟩
theorem wp_worldB {P : Program} {c : Code} {Q : Exit → Act → World → Prop} {a : Act} {w : World} (F : World → Prop) (hf : F w) (h : ∀ W, F W → Code.wp P c Q a W) : Code.wp P c Q a w := h w hf
theorem ownF_made (W : World) (e : TypeId) (n : Nat) : OwnF (W.alloc (.cells (madeCells #[.int .i64 0] n) e)) W.heap.size n (fun _ => 0) := by
  refine ⟨⟨by simp, fun k hk => ?_⟩, fun k hk => by simp [go_sem]⟩
  simp [go_sem, madeCells, hk, Nat.mod_one]
set_option maxRecDepth 20000 in
set_option maxHeartbeats 8000000 in
theorem byTransforms_any (zs ys : List Int) (v u : Value) (w : World) (hv : IntsX w v zs) (hu : IntsX w u ys) (ht : Tab w) : Calls Tryd.prog 7 #[v, u] w fun e w' => e = .returned (.bool true) ∧ Below w.heap.size w w' := by
  obtain ⟨i0, hi0, hz0, hz1, hz2⟩ := info_parts infoC32
  obtain ⟨i1, hi, hy0, hy1, hy2⟩ := info_parts info3
  have HT := Lib.hid ht
  clear ht
  obtain ⟨n, hn⟩ : ∃ n, zs.length = n := ⟨_, rfl⟩
  obtain ⟨m, hm⟩ : ∃ m, ys.length = m := ⟨_, rfl⟩
  have hv0 := hv
  have hu0 := hu
  obtain ⟨⟨a, cap, rfl, -⟩, -⟩ := hv
  obtain ⟨⟨a', cap', rfl, -⟩, -⟩ := hu
  by_cases g1 : n < 1
  · rw [hn, hm]
    clear hv0 hu0 hn hm
    go_enter Tryd.func7, Tryd.ntmps7
    go_wp2_with (first | (go_at_call 17; (with_reducible refine (awake_any _ (HT.out.below (by (repeat' (first | with_reducible exact Below.refl _ _ | (with_reducible refine below_later_of ?_ ?_ _) | (with_reducible refine Below.alloc ?_ ?_ _) | (with_reducible refine Below.setCell ?_ ?_ _) | (with_reducible refine Below.drew ?_) | (simp; done) | (simp; omega) | omega))))).mono ?_); rintro e w' ⟨rfl, hb⟩; obtain ⟨pq, rfl⟩ := later_of_below hb; clear hb))
    all_goals
      go_ret
      exact ⟨rfl, (by (repeat' (first | with_reducible exact Below.refl _ _ | (with_reducible refine below_later_of ?_ ?_ _) | (with_reducible refine Below.alloc ?_ ?_ _) | (with_reducible refine Below.setCell ?_ ?_ _) | (with_reducible refine Below.drew ?_) | (simp; done) | (simp; omega) | omega)))⟩
  by_cases g2 : 40 < n
  · rw [hn, hm]
    clear hv0 hu0 hn hm
    go_enter Tryd.func7, Tryd.ntmps7
    go_wp2_with (first | (go_at_call 17; (with_reducible refine (awake_any _ (HT.out.below (by (repeat' (first | with_reducible exact Below.refl _ _ | (with_reducible refine below_later_of ?_ ?_ _) | (with_reducible refine Below.alloc ?_ ?_ _) | (with_reducible refine Below.setCell ?_ ?_ _) | (with_reducible refine Below.drew ?_) | (simp; done) | (simp; omega) | omega))))).mono ?_); rintro e w' ⟨rfl, hb⟩; obtain ⟨pq, rfl⟩ := later_of_below hb; clear hb))
    all_goals
      go_ret
      exact ⟨rfl, (by (repeat' (first | with_reducible exact Below.refl _ _ | (with_reducible refine below_later_of ?_ ?_ _) | (with_reducible refine Below.alloc ?_ ?_ _) | (with_reducible refine Below.setCell ?_ ?_ _) | (with_reducible refine Below.drew ?_) | (simp; done) | (simp; omega) | omega)))⟩
  by_cases g3 : m < 1
  · rw [hn, hm]
    clear hv0 hu0 hn hm
    go_enter Tryd.func7, Tryd.ntmps7
    go_wp2_with (first | (go_at_call 17; (with_reducible refine (awake_any _ (HT.out.below (by (repeat' (first | with_reducible exact Below.refl _ _ | (with_reducible refine below_later_of ?_ ?_ _) | (with_reducible refine Below.alloc ?_ ?_ _) | (with_reducible refine Below.setCell ?_ ?_ _) | (with_reducible refine Below.drew ?_) | (simp; done) | (simp; omega) | omega))))).mono ?_); rintro e w' ⟨rfl, hb⟩; obtain ⟨pq, rfl⟩ := later_of_below hb; clear hb))
    all_goals
      go_ret
      exact ⟨rfl, (by (repeat' (first | with_reducible exact Below.refl _ _ | (with_reducible refine below_later_of ?_ ?_ _) | (with_reducible refine Below.alloc ?_ ?_ _) | (with_reducible refine Below.setCell ?_ ?_ _) | (with_reducible refine Below.drew ?_) | (simp; done) | (simp; omega) | omega)))⟩
  by_cases g4 : 20 < m
  · rw [hn, hm]
    clear hv0 hu0 hn hm
    go_enter Tryd.func7, Tryd.ntmps7
    go_wp2_with (first | (go_at_call 17; (with_reducible refine (awake_any _ (HT.out.below (by (repeat' (first | with_reducible exact Below.refl _ _ | (with_reducible refine below_later_of ?_ ?_ _) | (with_reducible refine Below.alloc ?_ ?_ _) | (with_reducible refine Below.setCell ?_ ?_ _) | (with_reducible refine Below.drew ?_) | (simp; done) | (simp; omega) | omega))))).mono ?_); rintro e w' ⟨rfl, hb⟩; obtain ⟨pq, rfl⟩ := later_of_below hb; clear hb))
    all_goals
      go_ret
      exact ⟨rfl, (by (repeat' (first | with_reducible exact Below.refl _ _ | (with_reducible refine below_later_of ?_ ?_ _) | (with_reducible refine Below.alloc ?_ ?_ _) | (with_reducible refine Below.setCell ?_ ?_ _) | (with_reducible refine Below.drew ?_) | (simp; done) | (simp; omega) | omega)))⟩
  by_cases g5 : n < m
  · rw [hn, hm]
    clear hv0 hu0 hn hm
    go_enter Tryd.func7, Tryd.ntmps7
    go_wp2_with (first | (go_at_call 17; (with_reducible refine (awake_any _ (HT.out.below (by (repeat' (first | with_reducible exact Below.refl _ _ | (with_reducible refine below_later_of ?_ ?_ _) | (with_reducible refine Below.alloc ?_ ?_ _) | (with_reducible refine Below.setCell ?_ ?_ _) | (with_reducible refine Below.drew ?_) | (simp; done) | (simp; omega) | omega))))).mono ?_); rintro e w' ⟨rfl, hb⟩; obtain ⟨pq, rfl⟩ := later_of_below hb; clear hb))
    all_goals
      go_ret
      exact ⟨rfl, (by (repeat' (first | with_reducible exact Below.refl _ _ | (with_reducible refine below_later_of ?_ ?_ _) | (with_reducible refine Below.alloc ?_ ?_ _) | (with_reducible refine Below.setCell ?_ ?_ _) | (with_reducible refine Below.drew ?_) | (simp; done) | (simp; omega) | omega)))⟩
  have HX := Lib.hid hv0.at
  have HU := Lib.hid hu0.at
  obtain ⟨⟨a1, c1, e1, k1⟩, -⟩ := hv0
  cases e1
  obtain ⟨b, off, rfl, hbw, hc⟩ := k1 (by omega)
  obtain ⟨⟨a2, c2, e2, k2⟩, -⟩ := hu0
  cases e2
  obtain ⟨b', off', rfl, hbw', hc'⟩ := k2 (by omega)
  clear k1 k2
  rw [hn] at hc ⊢
  rw [hm] at hc' ⊢
  have HXO := Lib.hid (show ∀ j, n ≤ j → intAt zs j = 0 from fun j hj => by unfold intAt; rw [List.getElem?_eq_none (by omega)]; rfl)
  have HUO := Lib.hid (show ∀ j, m ≤ j → intAt ys j = 0 from fun j hj => by unfold intAt; rw [List.getElem?_eq_none (by omega)]; rfl)
  generalize intAt zs = X at hc HX HXO
  generalize intAt ys = U at hc' HU HUO
  have HC := Lib.hid hc
  have HC' := Lib.hid hc'
  clear hn hm hc hc'
  go_enter Tryd.func7, Tryd.ntmps7
  go_wp2_with (first | (go_at_call 17; (with_reducible refine (awake_any _ (HT.out.below (by (repeat' (first | with_reducible exact Below.refl _ _ | (with_reducible refine below_later_of ?_ ?_ _) | (with_reducible refine Below.alloc ?_ ?_ _) | (with_reducible refine Below.setCell ?_ ?_ _) | (with_reducible refine Below.drew ?_) | (simp; done) | (simp; omega) | omega))))).mono ?_); rintro e w' ⟨rfl, hb⟩; obtain ⟨pq, rfl⟩ := later_of_below hb; clear hb))
  refine wp_worldB (fun W => Below w.heap.size w W) (by (repeat' (first | with_reducible exact Below.refl _ _ | (with_reducible refine below_later_of ?_ ?_ _) | (with_reducible refine Below.alloc ?_ ?_ _) | (with_reducible refine Below.setCell ?_ ?_ _) | (with_reducible refine Below.drew ?_) | (simp; done) | (simp; omega) | omega))) ?_
  rintro W1 hb1
  have HB1 := Lib.hid hb1
  clear hb1
  obtain ⟨z64, hz64⟩ : ∃ z, madeCells #[.int .i64 0] 64 = z := ⟨_, rfl⟩
  have hmk : ∀ w : World, (Instr.makeSlice 53 (.int .i64 64) (.int .i64 64)).run Tryd.prog w = .ok (.slice (some ⟨w.heap.size, 0, none⟩) 64 64) (w.alloc (.cells z64 3)) := fun w => by
    rw [← hz64]
    kernel_rfl
  have HNW := Lib.hid (show ∀ W : World, OwnF (W.alloc (.cells z64 3)) W.heap.size 64 (fun _ => 0) from fun W => by rw [← hz64]; exact ownF_made W _ _)
  have HNX := Lib.hid (show ∀ W : World, OwnF ((W.alloc (.cells z64 3)).alloc (.cells z64 3)).drew (W.heap.size + 1) 64 (fun _ => 0) from fun W => by
    have h := (HNW.out (W.alloc (.cells z64 3))).drew
    rwa [show (W.alloc (.cells z64 3)).heap.size = W.heap.size + 1 by simp] at h)
  clear hz64
  go_cut [5, 6] from 53 to 55 (fun x y wx => ∃ g h, x = .slice (some ⟨g, 0, none⟩) 64 64 ∧ y = .slice (some ⟨h, 0, none⟩) 64 64 ∧ OwnF wx g 64 (fun _ => 0) ∧ OwnF wx h 64 (fun _ => 0) ∧ g ≠ h ∧ W1.heap.size ≤ g ∧ W1.heap.size ≤ h ∧ Below W1.heap.size W1 wx)
  case first =>
    go_region
    · go_wp2_with fail
      go_meet
      exact ⟨_, _, rfl, rfl, ((HNW.out W1).below (by (repeat' (first | with_reducible exact Below.refl _ _ | (with_reducible refine below_later_of ?_ ?_ _) | (with_reducible refine Below.alloc ?_ ?_ _) | (with_reducible refine Below.setCell ?_ ?_ _) | (with_reducible refine Below.drew ?_) | (simp; done) | (simp; omega) | omega)))).drew, (HNX.out _), by omega, by omega, by simp, (by (repeat' (first | with_reducible exact Below.refl _ _ | (with_reducible refine below_later_of ?_ ?_ _) | (with_reducible refine Below.alloc ?_ ?_ _) | (with_reducible refine Below.setCell ?_ ?_ _) | (with_reducible refine Below.drew ?_) | (simp; done) | (simp; omega) | omega)))⟩
    · go_wp2_with fail
      go_meet
      exact ⟨_, _, rfl, rfl, (HNX.out _), ((HNW.out W1).below (by (repeat' (first | with_reducible exact Below.refl _ _ | (with_reducible refine below_later_of ?_ ?_ _) | (with_reducible refine Below.alloc ?_ ?_ _) | (with_reducible refine Below.setCell ?_ ?_ _) | (with_reducible refine Below.drew ?_) | (simp; done) | (simp; omega) | omega)))).drew, by omega, by simp, by omega, (by (repeat' (first | with_reducible exact Below.refl _ _ | (with_reducible refine below_later_of ?_ ?_ _) | (with_reducible refine Below.alloc ?_ ?_ _) | (with_reducible refine Below.setCell ?_ ?_ _) | (with_reducible refine Below.drew ?_) | (simp; done) | (simp; omega) | omega)))⟩
  case rest =>
    obtain ⟨g, h, rfl, rfl, hg, hh, hgh, hwg, hwh, hb⟩ := hcut
    obtain ⟨W2, hW2⟩ : ∃ W2 : World, W2 = wc := ⟨_, rfl⟩
    subst hW2
    have HG := Lib.hid hg
    have HH := Lib.hid hh
    have HB2 := Lib.hid hb
    have hsz := hb.size
    have hg1 := hg.1.1
    have hh1 := hh.1.1
    have hsz1 := HB1.out.size
    clear hg hh hb HNW HNX hmk
    go_wp2
    refine wp_worldB (fun W => LinSt w g h W2.heap.size n (fun _ => 0) (fun _ => 0) (.slice none 0 0) (csF (sF X) 0) W)
      ⟨by simp [go_sem], by simp [go_sem], by simp [go_sem], by simp [go_sem], HG.out.below (by (repeat' (first | with_reducible exact Below.refl _ _ | (with_reducible refine below_later_of ?_ ?_ _) | (with_reducible refine Below.alloc ?_ ?_ _) | (with_reducible refine Below.setCell ?_ ?_ _) | (with_reducible refine Below.drew ?_) | (simp; done) | (simp; omega) | omega))), HH.out.below (by (repeat' (first | with_reducible exact Below.refl _ _ | (with_reducible refine below_later_of ?_ ?_ _) | (with_reducible refine Below.alloc ?_ ?_ _) | (with_reducible refine Below.setCell ?_ ?_ _) | (with_reducible refine Below.drew ?_) | (simp; done) | (simp; omega) | omega))), World.ownsRow_nil _ _ _ _, HB1.out.trans (below_mono_of hsz1 (HB2.out.trans (below_mono_of hsz (by (repeat' (first | with_reducible exact Below.refl _ _ | (with_reducible refine below_later_of ?_ ?_ _) | (with_reducible refine Below.alloc ?_ ?_ _) | (with_reducible refine Below.setCell ?_ ?_ _) | (with_reducible refine Below.drew ?_) | (simp; done) | (simp; omega) | omega)))))), by simp, hg1, hh1, hgh, by omega, by omega⟩ ?_
    rintro W3 hst
    generalize hO : W2.heap.size = O at hst ⊢
    have HST := Lib.hid hst
    have hOb : w.heap.size ≤ O := by omega
    clear hst hg1 hh1
    have HCW := Lib.hid (show ∀ (j : Nat) (wr : World), Below w.heap.size w wr → j < n → wr.cell? ⟨b, off + j, none⟩ = some (.int .i64 (X j)) from fun j wr hb hj => (hb.cell (p := ⟨b, off + j, none⟩) hbw).trans (HC.out j hj))
    have HCW' := Lib.hid (show ∀ (j : Nat) (wr : World), Below w.heap.size w wr → j < m → wr.cell? ⟨b', off' + j, none⟩ = some (.int .i64 (U j)) from fun j wr hb hj => (hb.cell (p := ⟨b', off' + j, none⟩) hbw').trans (HC'.out j hj))
    go_loopw [10] (fun i wr => ∃ (k : Nat) (v : Value), k ≤ n ∧ i = .int .i64 k ∧ (∀ j, j < k → inE (-2047) 2047 (X j) = true) ∧ LinSt w g h O n (fillP X k) (fun _ => 0) v (csF (sF X) k) wr) (fun i _ => n - (intOf i).toNat)
    case atStart => exact ⟨0, _, Nat.zero_le _, rfl, fun j hj => by omega, HST.out⟩
    case round =>
      obtain ⟨k, v, hk, rfl, hz, hst⟩ := hrel
      have HS1 := Lib.hid hst
      have HZ := Lib.hid hz
      by_cases hlt : k < n
      · have hdk : decide ((k : Int) < (n : Int)) = true := by simp; omega
        have hdk2 : decide ((k : Int) < 64) = true := by simp; omega
        have ck := HCW.out k wr hst.bel hlt
        have hbr : b < wr.heap.size := by have := hst.bel.size; omega
        rcases (show inE (-2047) 2047 (X k) = false ∨ inE (-2047) 2047 (X k) = true by cases inE (-2047) 2047 (X k) <;> simp) with hi2 | hi2
        · have HWI := Lib.hid (fun w => bWithin _ _ _ w hi2)
          have HBE := Lib.hid hst.bel
          clear hst hz hi2
          go_wp2_with (first | (go_at_call 30; (with_reducible refine (HWI.out _).mono ?_); rintro e w' ⟨rfl, rfl⟩))
          go_ret
          exact ⟨rfl, HBE.out⟩
        · have HWI := Lib.hid (fun w => bWithin _ _ _ w hi2)
          have HZ2 := Lib.hid (show ∀ j, j < k + 1 → inE (-2047) 2047 (X j) = true from fun j hj => if e : j = k then e ▸ hi2 else hz j (by omega))
          have hxk := inE_iff.1 hi2
          obtain ⟨x1, x2⟩ := hxk
          have HMO := Lib.hid (fun w => bMod (X k) 998244353 w (by decide) (by decide) (by omega) (by omega))
          have HSM := Lib.hid (fun w => bSample (X k) 0 w (by omega) (by omega))
          have HSET := Lib.hid (fillP_succ X k (z := X k % 998244353) rfl)
          have ca := hst.oa.1.2 k (by omega)
          have fa := hst.oa.2 k (by omega)
          have HNB := Lib.hid (show ∀ j, j < 64 → fillP X (k + 1) j = if j = k then X k % 998244353 else fillP X k j from HSET.out)
          have hsf : sF X k = ((smpI (X k) 0).1, (smpI (X k) 0).2) := rfl
          generalize hxx : X k = xk at HWI HMO HSM ck HNB hsf
          clear hst hz hi2 HSET
          go_wp2_with (first | (go_at_call 30; (with_reducible refine (HWI.out _).mono ?_); rintro e w' ⟨rfl, rfl⟩) | (go_at_call 40; (with_reducible refine (HMO.out _).mono ?_); rintro e w' ⟨rfl, rfl⟩))
          refine wp_worldB (fun W => LinSt w g h O n (fillP X (k + 1)) (fun _ => 0) v (csF (sF X) k) W) (HS1.out.seta (by omega) HNB.out) ?_
          rintro W4 hst4
          have HS4 := Lib.hid hst4
          have hltO4 := hst4.lt
          have ck4 := HCW.out k W4 hst4.bel hlt
          have hbr4 : b < W4.heap.size := by have := hst4.bel.size; omega
          rw [hxx] at ck4
          obtain ⟨re, hre⟩ : ∃ re, (smpI xk 0).1 = re := ⟨_, rfl⟩
          obtain ⟨im, him⟩ : ∃ im, (smpI xk 0).2 = im := ⟨_, rfl⟩
          rw [hre, him] at HSM hsf
          have c2 := hst4.c2
          have f2 := hst4.f2
          have hown0 := hst4.own
          rw [csF_len] at hown0
          have HOW2 := Lib.hid hown0
          have HSN := Lib.hid (show ∀ (g' cc' : Nat) (w1 : World) (o : Obj), w1.ownsRow (O + 1) 63 1 (.slice (some ⟨g', 0, none⟩) (k + 1) cc') (k + 1) (csF (sF X) k ++ [.complex .f32 re im]) → (W4.drew.alloc o).grownBy w1 v.ownBlock → LinSt w g h O n (fillP X (k + 1)) (fun _ => 0) (.slice (some ⟨g', 0, none⟩) (k + 1) cc') (csF (sF X) (k + 1)) (w1.setCell ⟨O, 2, none⟩ (.slice (some ⟨g', 0, none⟩) (k + 1) cc')) from fun g' cc' w1 o h1 h2 => by
            rw [csF_snoc, hsf]
            exact (HS4.out.below (Below.refl _ _).drew).put (by rw [csF_len]; exact h1) h2)
          have HSL := Lib.hid (show ∀ (w1 : World) (o : Obj), (W4.drew.alloc o).grownBy w1 v.ownBlock → w1.cell? ⟨O, 2, none⟩ = some v ∧ w1.frozen? ⟨O, 2, none⟩ = false from fun w1 o h => (HS4.out.below (Below.refl _ _).drew).still h)
          clear hst4 ck ca fa hbr hxx hsf hre him hown0 HNB x1 x2
          go_wp2_with fail
          go_region_law (first | (refine step_append_lies _ rfl (.tmp 79) (.tmp 85) 30 rfl (O + 1) 63 i0 (.complex .f32 0 0) 1 8 Tryd.underlying30 hi0 hz0 hz1 hz2 rfl (by decide) v k (csF (sF X) k) (by simp [Act.eval, Act.put]) (by first | exact (HOW2.out.alloc _).drew | exact HOW2.out.drew.alloc _) ⟨W4.heap.size, 0, none⟩ 1 1 [.complex .f32 re im] (by simp [Act.eval, Act.put]) rfl (by intro j u hj; rcases j with _ | j; (focus (simp at hj; subst hj; (first | (simp [Addr.add, go_sem]; done) | simp [Addr.add, go_sem, ↓IntWalk.iteOmega]))); (focus (simp at hj))) (by intro u hu; simp at hu; subst hu; rfl) (by decide) (by unfold maxLen; omega) (by omega) (by first | omega | (simp; omega)) _ rfl ?_; intro g' cc' w1 hown' hgrow _ _; have HN2 := Lib.hid (show LinSt w g h O n (fillP X (k + 1)) (fun _ => 0) (.slice (some ⟨g', 0, none⟩) (k + 1) cc') (csF (sF X) (k + 1)) _ from HSN.out _ _ _ _ hown' hgrow); obtain ⟨hcb, hfb⟩ := HSL.out _ _ hgrow; clear hown' hgrow) | (go_simp; (go_at_call 41; (with_reducible refine (HSM.out _).mono ?_); rintro e w' ⟨rfl, rfl⟩)))
          all_goals
            go_wp2
            go_roundw
            case rel => exact ⟨k + 1, _, by omega, by go_num, HZ2.out, HN2.out⟩
            case measure => simp [intOf]; omega
      · obtain rfl : n = k := by omega
        have hdk : decide ((n : Int) < (n : Int)) = false := by simp
        have hXB : ∀ j, -2047 ≤ X j ∧ X j ≤ 2047 := fun j => by
          by_cases h : j < n
          · exact inE_iff.1 (hz j h)
          · rw [HXO.out j (by omega)]; decide
        have HXB := Lib.hid hXB
        have hown := hst.own
        rw [csF_len] at hown
        obtain ⟨aX, cX, rfl⟩ := own_slice hown
        have hcapX := own_cap hown
        clear hst hz hXB hown
        go_wp2
        refine wp_worldB (fun W => LinSt w g h O n (fillP X n) (fun _ => 0) (.slice aX n cX) (csF (sF X) n) W) HS1.out ?_
        rintro W5 hst5
        have HS5 := Lib.hid hst5
        have hbo := hst5.bo
        have hlt5 := hst5.lt
        have hwb := hst5.wb
        have hw5 := hst5.bel.size
        have hc0 := CodSt.mk (w := w) (W1 := W5) (h := h) (fb := fillP U 0) (v := .slice none 0 0) (xs := csF (sF U) 0) (hst5.ob.same fun j _ => by unfold fillP; simp) (World.ownsRow_nil _ _ _ _) (fun _ _ _ => rfl) hst5.bel (Nat.le_refl _) (by omega) hwb
        have HC0 := Lib.hid hc0
        clear hst5 hc0 HST HG HH HB2 HS1
        go_loopw [8, 9, 11] (fun x s i wr => ∃ (k : Nat), k ≤ m ∧ i = .int .i64 k ∧ s = .bool (someU U k) ∧ (∀ j, j < k → inE (-3) 3 (U j) = true) ∧ CodSt w W5 h (fillP U k) x (csF (sF U) k) wr) (fun _ _ i _ => m - (intOf i).toNat)
        case atStart => exact ⟨0, Nat.zero_le _, rfl, rfl, fun j hj => by omega, HC0.out⟩
        case round =>
          obtain ⟨k, hk, rfl, rfl, hz, hst⟩ := hrel
          have HS1 := Lib.hid hst
          have HZ := Lib.hid hz
          by_cases hlt : k < m
          · have hdk : decide ((k : Int) < (m : Int)) = true := by simp; omega
            have hdk2 : decide ((k : Int) < 64) = true := by simp; omega
            have ck := HCW'.out k wr hst.bel hlt
            have hbr : b' < wr.heap.size := by have := hst.bel.size; omega
            rcases (show inE (-3) 3 (U k) = false ∨ inE (-3) 3 (U k) = true by cases inE (-3) 3 (U k) <;> simp) with hi2 | hi2
            · have HWI := Lib.hid (fun w => bWithin _ _ _ w hi2)
              have HBE := Lib.hid hst.bel
              clear hst hz hi2
              go_wp2_with (first | (go_at_call 30; (with_reducible refine (HWI.out _).mono ?_); rintro e w' ⟨rfl, rfl⟩))
              go_ret
              exact ⟨rfl, HBE.out⟩
            · have HWI := Lib.hid (fun w => bWithin _ _ _ w hi2)
              have HZ2 := Lib.hid (show ∀ j, j < k + 1 → inE (-3) 3 (U j) = true from fun j hj => if e : j = k then e ▸ hi2 else hz j (by omega))
              obtain ⟨x1, x2⟩ := inE_iff.1 hi2
              have HMO := Lib.hid (fun w => bMod (U k) 998244353 w (by decide) (by decide) (by omega) (by omega))
              have HSM := Lib.hid (fun w => bSample (U k) 0 w (by omega) (by omega))
              have ca := hst.ob.1.2 k (by omega)
              have fa := hst.ob.2 k (by omega)
              have HNB := Lib.hid (show ∀ j, j < 64 → fillP U (k + 1) j = if j = k then U k % 998244353 else fillP U k j from fillP_succ U k rfl)
              have hsf : sF U k = ((smpI (U k) 0).1, (smpI (U k) 0).2) := rfl
              have hsu := someU_succ U k
              generalize hxx : U k = xk at HWI HMO HSM ck HNB hsf hsu
              obtain ⟨re, hre⟩ : ∃ re, (smpI xk 0).1 = re := ⟨_, rfl⟩
              obtain ⟨im, him⟩ : ∃ im, (smpI xk 0).2 = im := ⟨_, rfl⟩
              rw [hre, him] at HSM hsf
              have HXX := Lib.hid hxx
              have HSF := Lib.hid hsf
              have HSU := Lib.hid hsu
              clear hst hz hi2 hxx hsf hsu hre him x1 x2
              cases hsb : someU U k
              all_goals
                have hsu2 := HSU.out
                rw [hsb] at hsu2
                simp only [Bool.false_or, Bool.true_or] at hsu2
                have HSB := Lib.hid hsu2
                clear hsb hsu2
                go_wp2_with (first | (go_at_call 30; (with_reducible refine (HWI.out _).mono ?_); rintro e w' ⟨rfl, rfl⟩) | (go_at_call 40; (with_reducible refine (HMO.out _).mono ?_); rintro e w' ⟨rfl, rfl⟩))
                refine calls_worldB (fun W => CodSt w W5 h (fillP U (k + 1)) u8 (csF (sF U) k) W) (HS1.out.setb (by omega) HNB.out) ?_
                rintro W6 hst6
                have HS6 := Lib.hid hst6
                have ck6 := HCW'.out k W6 hst6.bel hlt
                have hbr6 : b' < W6.heap.size := by have := hst6.bel.size; omega
                rw [HXX.out] at ck6
                have hown0 := hst6.own
                rw [csF_len] at hown0
                have HOW2 := Lib.hid hown0
                have hs6 := hst6.siz
                clear hst6 hown0
                with_reducible refine (HSM.out _).mono ?_
                rintro e w' ⟨rfl, rfl⟩
                go_wp2_with (first | (at_builtin; refine wpList_append_own _ rfl _ _ 30 rfl W5.heap.size 63 i0 (.complex .f32 0 0) 1 8 Tryd.underlying30 hi0 hz0 hz1 hz2 rfl (by decide) _ _ _ rfl (HOW2.out.alloc _) ⟨W6.heap.size, 0, none⟩ 1 1 [.complex .f32 re im] rfl rfl ?d1 ?d2 ?d3 ?d4 ?d5 ?_))
                case d1 =>
                  intro j u hj
                  rcases j with _ | j
                  · simp at hj; subst hj; (first | (simp [Addr.add, go_sem]; done) | simp [Addr.add, go_sem, ↓IntWalk.iteOmega])
                  · simp at hj
                case d2 => intro u hu; simp at hu; subst hu; rfl
                case d3 => unfold maxLen; omega
                case d4 => omega
                case d5 => first | omega | (simp; omega)
                intro v' w1 hown' hgrow _
                have HN2 := Lib.hid (show CodSt w W5 h (fillP U (k + 1)) v' (csF (sF U) (k + 1)) w1 from by
                  rw [csF_snoc, HSF.out]
                  exact HS6.out.put (by rw [csF_len]; exact hown') hgrow)
                clear hown' hgrow
                go_wp2
                go_roundw
                case rel => exact ⟨k + 1, by omega, by go_num, by rw [HSB.out], HZ2.out, HN2.out⟩
                case measure => simp [intOf]; omega
          · obtain rfl : m = k := by omega
            have hdk : decide ((m : Int) < (m : Int)) = false := by simp
            cases hsb : someU U m
            · have HBE := Lib.hid hst.bel
              clear hst hz hsb
              go_wp2
              go_ret
              exact ⟨rfl, HBE.out⟩
            · obtain ⟨ju, hju, hjn⟩ := someU_ex hsb
              have hUB : ∀ j, -3 ≤ U j ∧ U j ≤ 3 := fun j => by
                by_cases h : j < m
                · exact inE_iff.1 (hz j h)
                · rw [HUO.out j (by omega)]; decide
              have hown := hst.own
              rw [csF_len] at hown
              obtain ⟨aU, cU, rfl⟩ := own_slice hown
              obtain ⟨hDA, hCA, hVA, hVB, o0, o1, o2, hltO⟩ := after_loops (by omega) (by omega) (by omega) HS5.out hst
              have HBE := Lib.hid hst.bel
              have hsw := hst.bel.size
              obtain ⟨N, hN⟩ : ∃ N, n + 1 - m = N := ⟨_, rfl⟩
              have hNi : (n : Int) - (m : Int) + 1 = (N : Int) := by omega
              have hN40 : N ≤ 40 := by omega
              have HCP := Lib.hid (show ∀ W, Below wr.heap.size wr W → Calls Tryd.prog 21 #[.agg #[.int .i64 1, .int .i64 n, .slice aX n cX], .slice aU m cU] W (BtPost N (fun s => (f64I (linP X U m s), f64I 0)) W) from fun W hW => compress_line HXB.out hUB (by omega) (by omega) (by omega) (by omega) hN hju hjn cX cU aX aU W (hDA.below hW) (CodeAt.below hCA hW))
              have HLT := Lib.hid (show ∀ s, s < N → (0 ≤ intAt (crL (padL X n) (padL U m)) s ∧ intAt (crL (padL X n) (padL U m)) s < 998244353) ∧ (499122176 < intAt (crL (padL X n) (padL U m)) s → intAt (crL (padL X n) (padL U m)) s - 998244353 = linP X U m s) ∧ (intAt (crL (padL X n) (padL U m)) s ≤ 499122176 → intAt (crL (padL X n) (padL U m)) s = linP X U m s) from fun s hs => line_trans HXB.out hUB (by omega) (by omega) (show s + m ≤ n by omega))
              have HLB := Lib.hid (fun s => linP_bd HXB.out hUB (C := m) (by omega) s)
              have hla := padL_len X n
              have hlb := padL_len U m
              have hoa := padL_ok X n
              have hob := padL_ok U m
              generalize linP X U m = ln at HCP HLT HLB
              generalize padL X n = la at hVA HLT hla hoa
              generalize padL U m = lb at hVB HLT hlb hob
              have HC1 := Lib.hid (copy64 hla)
              have HC2 := Lib.hid (copy64 hlb)
              have HT1 := Lib.hid (trans64 hla hoa)
              have HT2 := Lib.hid (trans64 hlb hob)
              have HPQ := Lib.hid (show ∀ j, j < 64 → intAt (trL 6 la) j * intAt (trL 6 lb) ((64 - j) % 64) % 998244353 = intAt (trL 6 (crL la lb)) j from fun j hj => by
                have := corr_lists (m := 6) (by decide) (zs := la) (ys := lb) (by rw [hla]) (by rw [hla, hlb]) hoa (k := j) (by omega)
                rwa [hla] at this)
              have HB1X := Lib.hid (show ∀ j, j < 64 → 0 ≤ intAt (trL 6 la) j ∧ intAt (trL 6 la) j < 998244353 from fun j hj => trL_bd (by rw [hla]) hoa (by omega))
              have HB2X := Lib.hid (show ∀ j, j < 64 → 0 ≤ intAt (trL 6 lb) j ∧ intAt (trL 6 lb) j < 998244353 from fun j hj => trL_bd (by rw [hlb]) hob (by omega))
              have HIV := Lib.hid (inv64 (xs := crL la lb) (by rw [crL_len, hla]) (crL_ok hoa))
              have HCO := Lib.hid (corr64 hla hlb hoa hob)
              have htl : (trL 6 (crL la lb)).length = 64 := by rw [trL_len, crL_len, hla]
              have hcl : (crL la lb).length = 64 := by rw [crL_len, hla]
              generalize crL la lb = cs at HPQ HIV HCO htl hcl HLT
              generalize trL 6 cs = tz at HPQ HIV htl
              generalize trL 6 la = tx at HT1 HPQ HB1X
              generalize trL 6 lb = ty at HT2 HPQ HB2X
              have HVA := Lib.hid hVA
              have HVB := Lib.hid hVB
              have HTL := Lib.hid htl
              have HCL := Lib.hid hcl
              unfold L64 at HT1 HT2 HIV HCO
              unfold BtPost at HCP
              have hAm : ((n : Int) + 1 - (m : Int)) = (N : Int) := by omega
              clear hst hz hsb hju hjn hUB hown hDA hCA hN hla hlb hoa hob hVA hVB htl hcl HXB HS5 HC0 HCW HCW' HC HC' HX HU HXO HUO hOb
              go_wp2_with (first | (go_at_call 21; (with_reducible refine (HCP.out _ (by (repeat' (first | with_reducible exact Below.refl _ _ | (with_reducible refine below_later_of ?_ ?_ _) | (with_reducible refine Below.alloc ?_ ?_ _) | (with_reducible refine Below.setCell ?_ ?_ _) | (with_reducible refine Below.drew ?_) | (simp; done) | (simp; omega) | omega)))).mono ?_); rintro e w' ⟨aF, cF, rfl, ho, hb⟩; have HFD := Lib.hid ho; clear ho; obtain ⟨pq0, rfl⟩ := later_of_below hb; clear hb) | (go_at_call 32; (with_reducible refine (HC1.out _ _ (HVA.out.below (by (repeat' (first | with_reducible exact Below.refl _ _ | (with_reducible refine below_later_of ?_ ?_ _) | (with_reducible refine Below.alloc ?_ ?_ _) | (with_reducible refine Below.setCell ?_ ?_ _) | (with_reducible refine Below.drew ?_) | (simp; done) | (simp; omega) | omega))))).mono ?_); rintro e w' ⟨a1, c1, rfl, ha, hb⟩; have HA1 := Lib.hid ha; clear ha; obtain ⟨pq, rfl⟩ := later_of_below hb; clear hb) | (go_at_call 32; (with_reducible refine (HC2.out _ _ (HVB.out.below (by (repeat' (first | with_reducible exact Below.refl _ _ | (with_reducible refine below_later_of ?_ ?_ _) | (with_reducible refine Below.alloc ?_ ?_ _) | (with_reducible refine Below.setCell ?_ ?_ _) | (with_reducible refine Below.drew ?_) | (simp; done) | (simp; omega) | omega))))).mono ?_); rintro e w' ⟨a2, c2, rfl, ha, hb⟩; have HA2 := Lib.hid ha; clear ha; obtain ⟨pq, rfl⟩ := later_of_below hb; clear hb) | (go_at_call 36; (with_reducible refine (HT1.out _ _ (HA1.out.below (by (repeat' (first | with_reducible exact Below.refl _ _ | (with_reducible refine below_later_of ?_ ?_ _) | (with_reducible refine Below.alloc ?_ ?_ _) | (with_reducible refine Below.setCell ?_ ?_ _) | (with_reducible refine Below.drew ?_) | (simp; done) | (simp; omega) | omega))))).mono ?_); rintro e w' ⟨a3, c3, rfl, ha, hb⟩; have HTX := Lib.hid ha; clear ha; obtain ⟨pq, rfl⟩ := later_of_below hb; clear hb) | (go_at_call 36; (with_reducible refine (HT2.out _ _ (HA2.out.below (by (repeat' (first | with_reducible exact Below.refl _ _ | (with_reducible refine below_later_of ?_ ?_ _) | (with_reducible refine Below.alloc ?_ ?_ _) | (with_reducible refine Below.setCell ?_ ?_ _) | (with_reducible refine Below.drew ?_) | (simp; done) | (simp; omega) | omega))))).mono ?_); rintro e w' ⟨a4, c4, rfl, ha, hb⟩; have HTY := Lib.hid ha; clear ha; obtain ⟨pq, rfl⟩ := later_of_below hb; clear hb))
              obtain ⟨F, hF⟩ : ∃ F : Nat → Nat × Nat, F = fun s => (f64I (ln s), f64I 0) := ⟨_, rfl⟩
              rw [← hF] at HFD
              have HFE := Lib.hid (show ∀ s, F s = (f64I (ln s), f64I 0) from fun s => by rw [hF])
              clear hF
              refine wp_worldB (fun W => IntsV W (.slice a3 64 c3) tx ∧ IntsV W (.slice a4 64 c4) ty ∧ IntsV W (.slice (some ⟨g, 0, none⟩) 64 64) la ∧ IntsV W (.slice (some ⟨h, 0, none⟩) 64 64) lb ∧ OwnS W 0 N F aF ∧ W.cell? ⟨wr.heap.size + pq0.os.size, 2, none⟩ = some (.slice aF N cF) ∧ wr.heap.size + pq0.os.size < W.heap.size ∧ Below w.heap.size w W)
                ⟨HTX.out.below (by (repeat' (first | with_reducible exact Below.refl _ _ | (with_reducible refine below_later_of ?_ ?_ _) | (with_reducible refine Below.alloc ?_ ?_ _) | (with_reducible refine Below.setCell ?_ ?_ _) | (with_reducible refine Below.drew ?_) | (simp; done) | (simp; omega) | omega))), HTY.out.below (by (repeat' (first | with_reducible exact Below.refl _ _ | (with_reducible refine below_later_of ?_ ?_ _) | (with_reducible refine Below.alloc ?_ ?_ _) | (with_reducible refine Below.setCell ?_ ?_ _) | (with_reducible refine Below.drew ?_) | (simp; done) | (simp; omega) | omega))), HVA.out.below (by (repeat' (first | with_reducible exact Below.refl _ _ | (with_reducible refine below_later_of ?_ ?_ _) | (with_reducible refine Below.alloc ?_ ?_ _) | (with_reducible refine Below.setCell ?_ ?_ _) | (with_reducible refine Below.drew ?_) | (simp; done) | (simp; omega) | omega))), HVB.out.below (by (repeat' (first | with_reducible exact Below.refl _ _ | (with_reducible refine below_later_of ?_ ?_ _) | (with_reducible refine Below.alloc ?_ ?_ _) | (with_reducible refine Below.setCell ?_ ?_ _) | (with_reducible refine Below.drew ?_) | (simp; done) | (simp; omega) | omega))), (HFD.out.below (by (repeat' (first | with_reducible exact Below.refl _ _ | (with_reducible refine below_later_of ?_ ?_ _) | (with_reducible refine Below.alloc ?_ ?_ _) | (with_reducible refine Below.setCell ?_ ?_ _) | (with_reducible refine Below.drew ?_) | (simp; done) | (simp; omega) | omega)))).mono (Nat.zero_le _), by (first | (simp [go_sem]; done) | simp [go_sem, ↓IntWalk.iteOmega]), by simp <;> omega, HBE.out.trans (below_mono_of hsw (by (repeat' (first | with_reducible exact Below.refl _ _ | (with_reducible refine below_later_of ?_ ?_ _) | (with_reducible refine Below.alloc ?_ ?_ _) | (with_reducible refine Below.setCell ?_ ?_ _) | (with_reducible refine Below.drew ?_) | (simp; done) | (simp; omega) | omega))))⟩ ?_
              rintro W7 ⟨hx, hy, ha, hb, hf, hc, hlF, hbl⟩
              generalize hF0 : wr.heap.size + pq0.os.size = F0 at hc hlF ⊢
              obtain ⟨b3, o3, rfl, l3, x3⟩ := hx.cells (by decide)
              obtain ⟨b4, o4, rfl, l4, x4⟩ := hy.cells (by decide)
              have X3 := Lib.hid x3
              have X4 := Lib.hid x4
              have HA7 := Lib.hid ha
              have HB7 := Lib.hid hb
              have HF7 := Lib.hid hf
              have HC7 := Lib.hid hc
              have HBL := Lib.hid hbl
              have hlw := hbl.size
              clear x3 x4 hx hy ha hb hf hc hbl hF0 HTX HTY HVA HVB HFD HBE HA1 HA2 HC1 HC2 HT1 HT2 HCP o0 o1 o2
              go_loopw [18, 19] (fun v i wz => ∃ k : Nat, k ≤ 64 ∧ i = .int .i64 k ∧ wz.ownsRow W7.heap.size 3 1 v k (fv (intAt tz) k) ∧ Below W7.heap.size W7 wz) (fun _ i _ => 64 - (intOf i).toNat)
              case atStart => exact ⟨0, Nat.zero_le _, rfl, World.ownsRow_nil _ _ _ _, Below.refl _ _⟩
              case round =>
                obtain ⟨k, hk, rfl, hown, hbz⟩ := hrel
                have HOW2 := Lib.hid hown
                have HBZ := Lib.hid hbz
                have hsz7 := hbz.size
                by_cases hlt : k < 64
                · have hdk : decide ((k : Int) < 64) = true := by simp; omega
                  obtain ⟨t, ht⟩ : ∃ t, (64 - k) % 64 = t := ⟨_, rfl⟩
                  have htk : t < 64 := by omega
                  have hk0 : (0 : Int) ≤ (k : Int) := by omega
                  have hk1 : (k : Int) < 64 := by omega
                  have ht0 : (0 : Int) ≤ (t : Int) := by omega
                  have ht1 : (t : Int) < 64 := by omega
                  have hmod : ((64 : Int) - (k : Int)) % 64 = (t : Int) := by omega
                  have hdt : decide ((t : Int) < 64) = true := by simp; omega
                  have cx := (hbz.cell (p := ⟨b3, o3 + k, none⟩) l3).trans (X3.out k hlt)
                  have cy := (hbz.cell (p := ⟨b4, o4 + t, none⟩) l4).trans (X4.out t htk)
                  have hb3 : b3 < wr.heap.size := by omega
                  have hb4 : b4 < wr.heap.size := by omega
                  obtain ⟨p1, p2⟩ := HB1X.out k hlt
                  obtain ⟨q1, q2⟩ := HB2X.out t htk
                  have hpq := HPQ.out k hlt
                  rw [ht] at hpq
                  generalize intAt tx k = p at cx p1 p2 hpq
                  generalize intAt ty t = q at cy q1 q2 hpq
                  obtain ⟨m1, m2⟩ := pp_mul p1 p2 q1 q2
                  have HW1 := Lib.hid (fun w => bWithin p 0 998244352 w (c := true) (by unfold inE; simp; omega))
                  have HW2 := Lib.hid (fun w => bWithin q 0 998244352 w (c := true) (by unfold inE; simp; omega))
                  have HSN := Lib.hid (show ∀ (g' cc' : Nat) (w1 : World) (o : Obj), w1.ownsRow W7.heap.size 3 1 (.slice (some ⟨g', 0, none⟩) (k + 1) cc') (k + 1) (fv (intAt tz) k ++ [.int .i64 (p * q % 998244353)]) → (wr.drew.alloc o).grownBy w1 u18.ownBlock → w1.ownsRow W7.heap.size 3 1 (.slice (some ⟨g', 0, none⟩) (k + 1) cc') (k + 1) (fv (intAt tz) (k + 1)) ∧ Below W7.heap.size W7 w1 from fun g' cc' w1 o h1 h2 => by
                    rw [fv_snoc, ← hpq]
                    exact ⟨h1, ((HBZ.out.drew).alloc (by simp; omega) _).grown h2 (by simp; omega) (fun g hg => (HOW2.out.lt g hg).1)⟩)
                  have hwt : (IntKind.i64.wrap (64 - (k : Int))).tmod 64 = (t : Int) := by
                    rw [show IntKind.i64.wrap (64 - (k : Int)) = 64 - (k : Int) from IntWalk.i64_in _ (by omega), Int.tmod_eq_emod_of_nonneg (by omega), hmod]
                  have hwp : (IntKind.i64.wrap (p * q)).tmod 998244353 = p * q % 998244353 := by
                    rw [show IntKind.i64.wrap (p * q) = p * q from IntWalk.i64_in _ (by omega), Int.tmod_eq_emod_of_nonneg m1]
                  clear hown hbz ht hpq
                  go_wp2_with (first | (go_at_call 30; (with_reducible refine (HW1.out _).mono ?_); rintro e w' ⟨rfl, rfl⟩) | (go_at_call 30; (with_reducible refine (HW2.out _).mono ?_); rintro e w' ⟨rfl, rfl⟩))
                  go_region_law (first | (refine step_append_lies _ rfl (.tmp 196) (.tmp 209) 53 rfl W7.heap.size 3 i1 (.int .i64 0) 1 8 Tryd.underlying53 hi hy0 hy1 hy2 rfl (by decide) u18 k (fv (intAt tz) k) (by simp [Act.eval, Act.put]) (by first | exact (HOW2.out.alloc _).drew | exact HOW2.out.drew.alloc _) ⟨wr.heap.size, 0, none⟩ 1 1 [.int .i64 (p * q % 998244353)] (by simp [Act.eval, Act.put]) rfl (by intro j u hj; rcases j with _ | j; (focus (simp at hj; subst hj; (first | (simp [Addr.add, go_sem]; done) | simp [Addr.add, go_sem, ↓IntWalk.iteOmega]))); (focus (simp at hj))) (by intro u hu; simp at hu; subst hu; rfl) (by decide) (by unfold maxLen; omega) (by omega) (by first | omega | (simp; omega)) _ rfl ?_; intro g' cc' w1 hown' hgrow _ _; have HN2 := Lib.hid (HSN.out _ _ _ _ hown' hgrow); clear hown' hgrow))
                  all_goals
                    go_wp2
                    go_roundw
                    case rel => exact ⟨k + 1, by omega, by go_num, HN2.out.1, HN2.out.2⟩
                    case measure => simp [intOf]; omega
                · obtain rfl : k = 64 := by omega
                  obtain ⟨gz, cz, rfl⟩ := row_slice hown (by decide)
                  have HZV := Lib.hid (intsV_own64 (c := cz) (ownF_fv hown).2 HTL.out)
                  have HVA3 := Lib.hid (HA7.out.below hbz)
                  have HVB3 := Lib.hid (HB7.out.below hbz)
                  have HF3 := Lib.hid (HF7.out.below hbz)
                  have hcF := (hbz.cell (p := ⟨F0, 2, none⟩) hlF).trans HC7.out
                  have hlF2 : F0 < wr.heap.size := by omega
                  have HBE := Lib.hid (HBL.out.trans (hbz.mono hlw))
                  have hlw2 : w.heap.size ≤ wr.heap.size := by omega
                  clear hown hbz HOW2 HBZ HA7 HB7 HF7 HC7 HBL X3 X4 HB1X HB2X HPQ
                  go_wp2_with (first | (go_at_call 37; (with_reducible refine (HIV.out _ _ (HZV.out.below (by (repeat' (first | with_reducible exact Below.refl _ _ | (with_reducible refine below_later_of ?_ ?_ _) | (with_reducible refine Below.alloc ?_ ?_ _) | (with_reducible refine Below.setCell ?_ ?_ _) | (with_reducible refine Below.drew ?_) | (simp; done) | (simp; omega) | omega))))).mono ?_); rintro e w' ⟨a5, c5, rfl, ha, hb⟩; have HD5 := Lib.hid ha; clear ha; obtain ⟨pq, rfl⟩ := later_of_below hb; clear hb) | (go_at_call 31; (with_reducible refine (HCO.out _ _ _ (HVA3.out.below (by (repeat' (first | with_reducible exact Below.refl _ _ | (with_reducible refine below_later_of ?_ ?_ _) | (with_reducible refine Below.alloc ?_ ?_ _) | (with_reducible refine Below.setCell ?_ ?_ _) | (with_reducible refine Below.drew ?_) | (simp; done) | (simp; omega) | omega)))) (HVB3.out.below (by (repeat' (first | with_reducible exact Below.refl _ _ | (with_reducible refine below_later_of ?_ ?_ _) | (with_reducible refine Below.alloc ?_ ?_ _) | (with_reducible refine Below.setCell ?_ ?_ _) | (with_reducible refine Below.drew ?_) | (simp; done) | (simp; omega) | omega))))).mono ?_); rintro e w' ⟨a6, c6, rfl, ha, hb⟩; have HK6 := Lib.hid ha; clear ha; obtain ⟨pq, rfl⟩ := later_of_below hb; clear hb) | (go_at_call 34; (with_reducible refine (bInts cs cs _ _ _ (HD5.out.below (by (repeat' (first | with_reducible exact Below.refl _ _ | (with_reducible refine below_later_of ?_ ?_ _) | (with_reducible refine Below.alloc ?_ ?_ _) | (with_reducible refine Below.setCell ?_ ?_ _) | (with_reducible refine Below.drew ?_) | (simp; done) | (simp; omega) | omega)))) (HK6.out.below (by (repeat' (first | with_reducible exact Below.refl _ _ | (with_reducible refine below_later_of ?_ ?_ _) | (with_reducible refine Below.alloc ?_ ?_ _) | (with_reducible refine Below.setCell ?_ ?_ _) | (with_reducible refine Below.drew ?_) | (simp; done) | (simp; omega) | omega)))) (c := true) (by simp)).mono ?_); rintro e w' ⟨rfl, hb⟩; obtain ⟨pq, rfl⟩ := later_of_below hb; clear hb))
                  refine wp_worldB (fun W => IntsV W (.slice a5 64 c5) cs ∧ OwnS W 0 N F aF ∧ W.cell? ⟨F0, 2, none⟩ = some (.slice aF N cF) ∧ F0 < W.heap.size ∧ Below w.heap.size w W)
                    ⟨HD5.out.below (by (repeat' (first | with_reducible exact Below.refl _ _ | (with_reducible refine below_later_of ?_ ?_ _) | (with_reducible refine Below.alloc ?_ ?_ _) | (with_reducible refine Below.setCell ?_ ?_ _) | (with_reducible refine Below.drew ?_) | (simp; done) | (simp; omega) | omega))), HF3.out.below (by (repeat' (first | with_reducible exact Below.refl _ _ | (with_reducible refine below_later_of ?_ ?_ _) | (with_reducible refine Below.alloc ?_ ?_ _) | (with_reducible refine Below.setCell ?_ ?_ _) | (with_reducible refine Below.drew ?_) | (simp; done) | (simp; omega) | omega))), by (first | (simp [go_sem, hcF, hlF2]; done) | simp [go_sem, hcF, hlF2, ↓IntWalk.iteOmega]), by simp <;> omega, HBE.out.trans (below_mono_of hlw2 (by (repeat' (first | with_reducible exact Below.refl _ _ | (with_reducible refine below_later_of ?_ ?_ _) | (with_reducible refine Below.alloc ?_ ?_ _) | (with_reducible refine Below.setCell ?_ ?_ _) | (with_reducible refine Below.drew ?_) | (simp; done) | (simp; omega) | omega))))⟩ ?_
                  rintro W9 ⟨hd, hf, hc, hlF3, hbl⟩
                  obtain ⟨b5, o5, rfl, l5, x5⟩ := hd.cells (by decide)
                  obtain ⟨gF, rfl, -, lF, xF⟩ := hf (by omega)
                  have X5 := Lib.hid x5
                  have XF := Lib.hid xF
                  have HC9 := Lib.hid hc
                  have HBL := Lib.hid hbl
                  have hlw3 := hbl.size
                  clear x5 xF hd hf hc hbl HD5 HF3 HK6 HZV HVA3 HVB3 HBE hcF HIV HCO
                  go_loopw [24] (fun i wy => ∃ s : Nat, s ≤ N ∧ i = .int .i64 s ∧ Below W9.heap.size W9 wy) (fun i _ => N - (intOf i).toNat)
                  case atStart => exact ⟨0, Nat.zero_le _, rfl, Below.refl _ _⟩
                  case round =>
                    obtain ⟨s, hs, rfl, hbz⟩ := hrel
                    have HBZ := Lib.hid hbz
                    have hsz9 := hbz.size
                    have vF := (hbz.cell (p := ⟨F0, 2, none⟩) hlF3).trans HC9.out
                    have nF : F0 < wr.heap.size := by omega
                    by_cases hls : s < N
                    · have hds : decide ((s : Int) < (N : Int)) = true := by simp; omega
                      have hs64 : decide ((s : Int) < 64) = true := by simp; omega
                      have hk0 : (0 : Int) ≤ (s : Int) := by omega
                      have hk1 : (s : Int) < (N : Int) := by omega
                      have hk2 : (s : Int) < 64 := by omega
                      have e5 := (hbz.cell (p := ⟨b5, o5 + s, none⟩) l5).trans (X5.out s (by omega))
                      have eF := (hbz.cell (p := ⟨gF, 0 + s, none⟩) lF).trans (XF.out s hls)
                      rw [Nat.zero_add, HFE.out s] at eF
                      dsimp only at eF
                      obtain ⟨⟨d1, d2⟩, d3, d4⟩ := HLT.out s hls
                      have hlb := HLB.out s
                      have n5 : b5 < wr.heap.size := by omega
                      have n6 : gF < wr.heap.size := by omega
                      generalize ln s = z at eF d3 d4 hlb
                      generalize intAt cs s = d at e5 d1 d2 d3 d4
                      have r1 : (FloatKind.f64.format.order (f64I z) (f64I z) == some Ordering.eq) = true := by
                        rw [show FloatKind.f64.format.order (f64I z) (f64I z) = some (compare z z) from order_num _ (f64I_num (by omega)) (f64I_num (by omega)), beq_eq_iff]; simp
                      have r0 : (FloatKind.f64.format.order (f64I 0) (f64I 0) == some Ordering.eq) = true := by
                        rw [show FloatKind.f64.format.order (f64I 0) (f64I 0) = some (compare (0 : Int) 0) from order_num _ (f64I_num (by omega)) (f64I_num (by omega)), beq_eq_iff]; simp
                      clear hbz hlb
                      by_cases hgt : 499122176 < d
                      · have hdg : decide (499122176 < d) = true := by simpa using hgt
                        have hz := d3 hgt
                        subst hz
                        have HSU := Lib.hid (fun w => bSum (d - 998244353) 0 w)
                        generalize f64I (d - 998244353) = f1 at eF r1 HSU
                        generalize f64I 0 = f0 at eF r0 HSU
                        clear d3 d4
                        go_wp2
                        refine wp_region_calm (by kernel_rfl) (by kernel_rfl) ?_
                        repeat (go_big_quiet_step (first | (go_at_call 42; exact calm_same (HSU.out _))))
                        refine wpQuiet_nil ?_
                        rintro _ ⟨pq, rfl⟩
                        go_wp2
                        go_roundw
                        case rel => exact ⟨s + 1, by omega, by go_num, HBZ.out.trans (below_mono_of hsz9 (by (repeat' (first | with_reducible exact Below.refl _ _ | (with_reducible refine below_later_of ?_ ?_ _) | (with_reducible refine Below.alloc ?_ ?_ _) | (with_reducible refine Below.setCell ?_ ?_ _) | (with_reducible refine Below.drew ?_) | (simp; done) | (simp; omega) | omega))))⟩
                        case measure => simp [intOf]; omega
                      · have hdg : decide (499122176 < d) = false := by simpa using hgt
                        have hz := d4 (by omega)
                        subst hz
                        have HSU := Lib.hid (fun w => bSum d 0 w)
                        generalize f64I d = f1 at eF r1 HSU
                        generalize f64I 0 = f0 at eF r0 HSU
                        clear d3 d4
                        go_wp2
                        refine wp_region_calm (by kernel_rfl) (by kernel_rfl) ?_
                        repeat (go_big_quiet_step (first | (go_at_call 42; exact calm_same (HSU.out _))))
                        refine wpQuiet_nil ?_
                        rintro _ ⟨pq, rfl⟩
                        go_wp2
                        go_roundw
                        case rel => exact ⟨s + 1, by omega, by go_num, HBZ.out.trans (below_mono_of hsz9 (by (repeat' (first | with_reducible exact Below.refl _ _ | (with_reducible refine below_later_of ?_ ?_ _) | (with_reducible refine Below.alloc ?_ ?_ _) | (with_reducible refine Below.setCell ?_ ?_ _) | (with_reducible refine Below.drew ?_) | (simp; done) | (simp; omega) | omega))))⟩
                        case measure => simp [intOf]; omega
                    · obtain rfl : s = N := by omega
                      have hds : decide ((s : Int) < (s : Int)) = false := by simp
                      clear hbz
                      go_wp2
                      go_ret
                      exact ⟨rfl, HBL.out.trans (HBZ.out.mono hlw3)⟩
end Go.Proofs.YtakohhlmomgegaaDoor
