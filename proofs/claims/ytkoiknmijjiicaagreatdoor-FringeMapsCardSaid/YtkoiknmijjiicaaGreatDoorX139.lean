/- Chapter 4: the reference's Wrapped. -/
import Derived.Test.YtkoiknmijjiicaaGreatDoorXM
namespace Go.Proofs.YtkoiknmijjiicaaGreatDoor
set_option linter.unusedVariables false
set_option linter.unusedSimpArgs false
open Go.RowKit Go
def wrV (p : Int) : Int := if p = 1000000000000 then 1000000000000 else wrP p
set_option maxHeartbeats 400000 in
theorem rWrap (p : Int) (w : World) (h1 : -9223372036854775808 ≤ p) (h2 : p ≤ 9223372036854775807) {x : Int} (hx : wrV p = x) : Calls Tryz.prog 75 #[.int .i64 p] w fun e w' => e = .returned (.int .i64 x) ∧ w = w' := by
  unfold wrV at hx
  by_cases h : p = 1000000000000
  · rw [if_pos h] at hx
    subst hx
    subst h
    go_enter Tryz.func75, Tryz.ntmps75
    go_wp2
    go_ret
    exact ⟨rfl, rfl⟩
  · rw [if_neg h] at hx
    have HB := Lib.hid (fun w => bWrp p w h1 h2 hx)
    have hd : (p == 1000000000000) = false := by simpa using h
    clear h hx
    go_enter Tryz.func75, Tryz.ntmps75
    go_wp2_with (first | (go_at_call 112; (with_reducible refine (HB.out _).mono ?_); rintro e w' ⟨rfl, rfl⟩))
    go_ret
    exact ⟨rfl, rfl⟩
set_option maxRecDepth 20000 in
set_option maxHeartbeats 4000000 in
theorem rWrapped (R C : Nat) (zs : List Int) (v : Value) (w : World) (hm : MapOk R C zs) (hv : IntsV w v zs) :
    Calls Tryz.prog 25 #[.agg #[.int .i64 R, .int .i64 C, v]] w (RmPost R C (wrapL zs) w) := by
  obtain ⟨i0, hi0, hz0, hz1, hz2⟩ := info_parts info3
  have hpos : 0 < zs.length := by rw [hm.len]; exact Nat.mul_pos hm.r1 hm.c1
  have hsz := hm.size
  have HBZ := Lib.hid (fun k => hm.bd k)
  have HCL := Lib.hid (show wrapL zs = (List.range zs.length).map (fun i => wrV (intAt zs i)) from rfl)
  have HLL := Lib.hid (show (wrapL zs).length = zs.length by unfold wrapL; simp)
  obtain ⟨-, a, cap, rfl, h4⟩ := hv
  obtain ⟨b, off, rfl, hbw, hcz⟩ := h4 hpos
  have HCZ := Lib.hid hcz
  obtain ⟨n, hn⟩ : ∃ n, zs.length = n := ⟨_, rfl⟩
  rw [hn] at hpos hsz HCZ HLL HCL ⊢
  clear hm h4 hcz
  go_enter Tryz.func25, Tryz.ntmps25
  go_wp2
  refine any_worldF (fun W => ∃ W1, Below w.heap.size w W1 ∧ W1.heap.size = w.heap.size + 1 ∧ W1.cell? ⟨w.heap.size, 2, none⟩ = some (.slice (some ⟨b, off, none⟩) n cap) ∧ TriN W1 (w.heap.size + 1) (w.heap.size + 2) R C 3 1 (.slice none 0 0) 0 ((List.range 0).map fun i => .int .i64 (wrV (intAt zs i))) W)
    ⟨w.alloc (.cells #[.int .i64 R, .int .i64 C, .slice (some ⟨b, off, none⟩) n cap] 44), (by (repeat' (first | with_reducible exact Below.refl _ _ | (with_reducible refine below_later_of ?_ ?_ _) | (with_reducible refine Below.alloc ?_ ?_ _) | (with_reducible refine Below.setCell ?_ ?_ _) | (with_reducible refine Below.drew ?_) | (simp; done) | (simp; omega) | omega))), by simp, by simp [go_sem], by simp [go_sem], by simp [go_sem], by simp [go_sem], by simp [go_sem], by simp [go_sem], by simp [go_sem], by simp [go_sem], by simp [go_sem], by simp [go_sem], by simp [go_sem], World.ownsRow_nil _ _ _ _, (by (repeat' (first | with_reducible exact Below.refl _ _ | (with_reducible refine below_later_of ?_ ?_ _) | (with_reducible refine Below.alloc ?_ ?_ _) | (with_reducible refine Below.setCell ?_ ?_ _) | (with_reducible refine Below.drew ?_) | (simp; done) | (simp; omega) | omega))), by simp, by omega⟩ ?_
  rintro W2 ⟨W1, hb1, hsz1, q1, hst⟩
  have HST := Lib.hid hst
  have HB1 := Lib.hid hb1
  have Q1 := Lib.hid q1
  clear hst hb1 q1
  go_wp2
  go_loopw [4] (fun i wr => ∃ (k : Nat) (v : Value), k ≤ n ∧ i = .int .i64 k ∧ TriN W1 (w.heap.size + 1) (w.heap.size + 2) R C 3 1 v k ((List.range k).map fun i => .int .i64 (wrV (intAt zs i))) wr) (fun i _ => n - (intOf i).toNat)
  case atStart => exact ⟨0, _, Nat.zero_le _, rfl, HST.out⟩
  case round =>
    obtain ⟨k, v, hk, rfl, hst⟩ := hrel
    have HS2 := Lib.hid hst
    have k1 := (hst.bel.cell (p := ⟨w.heap.size, 2, none⟩) (show w.heap.size < w.heap.size + 1 by omega)).trans Q1.out
    by_cases hlt : k < n
    · have hdk : decide ((k : Int) < (n : Int)) = true := by simp; omega
      have hk0 : (0 : Int) ≤ (k : Int) := by omega
      have hk1 : (k : Int) < (n : Int) := by omega
      have x1 := (hst.bel.cell (p := ⟨b, off + k, none⟩) (show b < w.heap.size + 1 by omega)).trans ((HB1.out.cell (p := ⟨b, off + k, none⟩) hbw).trans (HCZ.out k hlt))
      obtain ⟨bz1, bz2⟩ := HBZ.out k
      have hsn : ((List.range (k + 1)).map fun i => Value.int .i64 (wrV (intAt zs i))) = ((List.range k).map fun i => Value.int .i64 (wrV (intAt zs i))) ++ [.int .i64 (wrV (intAt zs k))] := by rw [List.range_succ, List.map_append]; rfl
      have c2 := hst.c2
      have f2 := hst.f2
      have hltO := hst.lt
      have hbr : b < wr.heap.size := by have := hst.bel.size; omega
      obtain ⟨x, hx⟩ : ∃ x, wrV (intAt zs k) = x := ⟨_, rfl⟩
      rw [hx] at hsn
      have HPN := Lib.hid hsn
      have HOW2 := Lib.hid hst.own
      have HSN := Lib.hid (show ∀ (g' cc' : Nat) (w1 : World) (o : Obj), w1.ownsRow (w.heap.size + 2 + 1) 3 1 (.slice (some ⟨g', 0, none⟩) (k + 1) cc') (k + 1) (((List.range k).map fun i => Value.int .i64 (wrV (intAt zs i))) ++ [.int .i64 x]) → (wr.drew.alloc o).grownBy w1 v.ownBlock → TriN W1 (w.heap.size + 1) (w.heap.size + 2) R C 3 1 (.slice (some ⟨g', 0, none⟩) (k + 1) cc') (k + 1) ((List.range (k + 1)).map fun i => Value.int .i64 (wrV (intAt zs i))) (w1.setCell ⟨w.heap.size + 2, 2, none⟩ (.slice (some ⟨g', 0, none⟩) (k + 1) cc')) from fun g' cc' w1 o h1 h2 => by
        rw [HPN.out]
        exact (HS2.out.below (Below.refl _ _).drew).put h1 h2)
      have HSL := Lib.hid (show ∀ (w1 : World) (o : Obj), (wr.drew.alloc o).grownBy w1 v.ownBlock → w1.cell? ⟨w.heap.size + 2, 2, none⟩ = some v ∧ w1.frozen? ⟨w.heap.size + 2, 2, none⟩ = false from fun w1 o h => (HS2.out.below (Below.refl _ _).drew).still h)
      have HWR := Lib.hid (show ∀ W, Calls Tryz.prog 75 #[.int .i64 (intAt zs k)] W fun e w' => e = .returned (.int .i64 x) ∧ W = w' from fun W => rWrap _ W (by omega) (by omega) hx)
      clear hst hsn hx
      generalize intAt zs k = zk at x1 HWR bz1 bz2
      go_wp2
      go_region_law (first | (refine step_append_lies _ rfl (.tmp 18) (.tmp 25) 42 rfl (w.heap.size + 2 + 1) 3 i0 (.int .i64 0) 1 8 Tryz.underlying42 hi0 hz0 hz1 hz2 rfl (by decide) v k ((List.range k).map fun i => .int .i64 (wrV (intAt zs i))) (by simp [Act.eval, Act.put]) (by first | exact (HOW2.out.alloc _).drew | exact HOW2.out.drew.alloc _) ⟨wr.heap.size, 0, none⟩ 1 1 [.int .i64 x] (by simp [Act.eval, Act.put]) rfl (by intro j u hj; rcases j with _ | j; (focus (simp at hj; subst hj; (first | (simp [Addr.add, go_sem]; done) | simp [Addr.add, go_sem, ↓IntWalk.iteOmega]))); (focus (simp at hj))) (by intro u hu; simp at hu; subst hu; rfl) (by decide) (by unfold maxLen; omega) (by omega) (by first | omega | (simp; omega)) _ rfl ?_; intro g' cc' w1 hown' hgrow _ _; have HN2 := Lib.hid (HSN.out _ _ _ _ hown' hgrow); obtain ⟨hcb, hfb⟩ := HSL.out _ _ hgrow; clear hown' hgrow) | (go_simp; (go_at_call 75; (with_reducible refine (HWR.out _).mono ?_); rintro e w' ⟨rfl, rfl⟩)))
      all_goals
        go_wp2
        go_roundw
        case rel => exact ⟨k + 1, _, by omega, by go_num, HN2.out⟩
        case measure => simp [intOf]; omega
    · obtain rfl : k = n := by omega
      have hdk : decide ((k : Int) < (k : Int)) = false := by simp
      obtain ⟨a', c', rfl⟩ := own_slice2 hst.own
      obtain ⟨e0, e1, e2, -, r0, r1, r2, g0, g1, g2, hown, hbel, -, hro⟩ := hst
      have HOW := Lib.hid hown
      have HBE := Lib.hid (HB1.out.trans (hbel.mono (by omega)))
      clear hown hbel
      go_wp2
      refine bodyPost_ret (v := .agg #[.int .i64 R, .int .i64 C, .slice a' k c']) ?_ rfl ⟨a', c', by rw [HLL.out], ?_, HBE.out.trans (by (repeat' (first | with_reducible exact Below.refl _ _ | (with_reducible refine below_later_of ?_ ?_ _) | (with_reducible refine Below.alloc ?_ ?_ _) | (with_reducible refine Below.setCell ?_ ?_ _) | (with_reducible refine Below.drew ?_) | (simp; done) | (simp; omega) | omega)))⟩
      · first | (simp [results, Tryz.results25, go_sem, r0, r1, r2]; done) | simp [results, Tryz.results25, go_sem, r0, r1, r2, ↓IntWalk.iteOmega]
      · rw [HLL.out]
        have h0 := siR_own (l := wrapL zs) (by rw [HCL.out, List.map_map]; exact HOW.out) HLL.out (by omega)
        refine OwnIV.mono (OwnIV.set (OwnIV.set (OwnIV.set h0 ?_ _) ?_ _) ?_ _) ?_
        all_goals first | omega | (simp <;> omega)
end Go.Proofs.YtkoiknmijjiicaaGreatDoor
