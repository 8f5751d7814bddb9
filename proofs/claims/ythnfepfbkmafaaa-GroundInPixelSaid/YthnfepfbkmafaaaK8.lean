/- viewOf, where track and relief are right. -/
import Derived.Test.YthnfepfbkmafaaaK9
namespace Go.Proofs.Ythnfepfbkmafaaa
set_option linter.unusedVariables false
open Go.RowKit

theorem viewAt_heap {W : World} {B : Nat} {t : Trk} {r : Rel} {b off cap : Nat} {T : TypeId} {fr : Nat × Nat} (h : W.heap[B]? = some (.cells #[.int .i64 t.sx, .int .i64 t.sy, .int .i64 t.sz, .int .i64 t.step, .int .i64 t.lines, .int .i64 t.near, .int .i64 t.bin, .int .i64 t.bins, .bool t.east, .int .i64 r.x, .int .i64 r.y, .int .i64 r.cell, .int .i64 r.rows, .int .i64 r.cols, .slice (some ⟨b, off, none⟩) r.ds.length cap] T fr)) : ViewAt W B t r b off cap :=
  ⟨cell_of_row W B 0 _ _ _ h, cell_of_row W B 1 _ _ _ h, cell_of_row W B 2 _ _ _ h, cell_of_row W B 3 _ _ _ h, cell_of_row W B 4 _ _ _ h, cell_of_row W B 5 _ _ _ h, cell_of_row W B 6 _ _ _ h, cell_of_row W B 7 _ _ _ h, cell_of_row W B 8 _ _ _ h, cell_of_row W B 9 _ _ _ h, cell_of_row W B 10 _ _ _ h, cell_of_row W B 11 _ _ _ h, cell_of_row W B 12 _ _ _ h, cell_of_row W B 13 _ _ _ h, cell_of_row W B 14 _ _ _ h⟩
set_option maxRecDepth 20000 in
set_option maxHeartbeats 1000000 in
theorem viewLeave (t : Trk) (r : Rel) (b off cap : Nat) (w W : World) (D : Nat) (e : Int) (hv : VEnd w t r b off cap e W) (hD : W.heap[D]? = some (.deferred (some []))) (hDs : w.heap.size + 1 + 1 + 1 < D)
    (R : Ending → World → Prop) (hR : ∀ W', Below w.heap.size w W' → R (.returned (.tuple #[.agg #[.int .i64 t.sx, .int .i64 t.sy, .int .i64 t.sz, .int .i64 t.step, .int .i64 t.lines, .int .i64 t.near, .int .i64 t.bin, .int .i64 t.bins, .bool t.east, .int .i64 r.x, .int .i64 r.y, .int .i64 r.cell, .int .i64 r.rows, .int .i64 r.cols, .slice (some ⟨b, off, none⟩) r.ds.length cap], .int .i64 e])) W') (u0 u1 u2 u3 u6 u7 u8 u9 u10 u11 u12 u13 u14 u15 u16 u17 u18 u19 u20 u21 u22 u23 u24 u25 u26 u27 u28 u29 u30 u31 u32 u33 u34 u35 u36 u37 u38 u39 u40 u41 u42 u43 u44 u45 u46 u47 u48 : Value) :
    LeavesInM Fence.wide 9 Try.prog Try.f95 #[u0, u1, u2, u3, .pointer (some ⟨w.heap.size + 1 + 1, 0, none⟩), .pointer (some ⟨w.heap.size + 1 + 1 + 1, 0, none⟩), u6, u7, u8, u9, u10, u11, u12, u13, u14, u15, u16, u17, u18, u19, u20, u21, u22, u23, u24, u25, u26, u27, u28, u29, u30, u31, u32, u33, u34, u35, u36, u37, u38, u39, u40, u41, u42, u43, u44, u45, u46, u47, u48] R [{ target := .collected D, args := #[] }] .returning W := by
  refine ⟨by simp, .inl ⟨_, _, rfl, run_takeDeferred hD, ?_⟩⟩
  have hb : Below D W (W.putObj D (.deferred none)) := below_putObj (Nat.le_refl _) _
  have hv2 := hv.below hDs hb
  obtain ⟨c0, c1, c2, c3, c4, c5, c6, c7, c8, c9, c10, c11, c12, c13, c14⟩ := viewAt_heap hv2.h4
  obtain ⟨e5, f5⟩ := cell_box hv2.h5
  have HB := hv2.bel
  generalize W.putObj D (.deferred none) = W2 at c0 c1 c2 c3 c4 c5 c6 c7 c8 c9 c10 c11 c12 c13 c14 e5 f5 HB
  refine ⟨_, ?_, hR _ HB⟩
  simp [results, Try.results95, go_sem, c0, c1, c2, c3, c4, c5, c6, c7, c8, c9, c10, c11, c12, c13, c14, e5]
set_option maxRecDepth 20000 in
set_option maxHeartbeats 2000000 in
theorem viewOf_ok (fe fi : Nat → Int) (t : Trk) (r : Rel) (b off cap : Nat) (w : World) (hlen : r.ds.length ≤ 1000000000) (hfe : ∀ k, k < r.ds.length → FlErr (bitAt r.ds k) (fe (bitAt r.ds k))) (hfi : FlInts fi r.ds)
    (hbw : b < w.heap.size) (hfl : FloatsAt w b off r.ds) (ht0 : checkTrackP t = 0) (hr0 : relErrP fe r = 0) :
    Calls Try.prog 95 #[.agg #[.int .i64 t.sx, .int .i64 t.sy, .int .i64 t.sz, .int .i64 t.step, .int .i64 t.lines, .int .i64 t.near, .int .i64 t.bin, .int .i64 t.bins, .bool t.east], .agg #[.int .i64 r.x, .int .i64 r.y, .int .i64 r.cell, .int .i64 r.rows, .int .i64 r.cols, .slice (some ⟨b, off, none⟩) r.ds.length cap]] w fun e w' => e = .returned (.tuple #[.agg #[.int .i64 t.sx, .int .i64 t.sy, .int .i64 t.sz, .int .i64 t.step, .int .i64 t.lines, .int .i64 t.near, .int .i64 t.bin, .int .i64 t.bins, .bool t.east, .int .i64 r.x, .int .i64 r.y, .int .i64 r.cell, .int .i64 r.rows, .int .i64 r.cols, .slice (some ⟨b, off, none⟩) r.ds.length cap], .int .i64 (viewErrP fe fi t r)]) ∧ Below w.heap.size w w' := by
  have he : first2 (checkTrackP t) (relErrP fe r) = 0 := by unfold first2; rw [if_pos ht0, hr0]
  have HQ := Lib.hid (show viewErrP fe fi t r = open Classical in (if BadOff t r then 15 else if deepUpto t r fi r.ds.length then 0 else 26) by unfold viewErrP; rw [if_pos he])
  have HE := Lib.hid he
  have HFE := Lib.hid hfe
  have HA := Lib.hid (show ∀ w', w.heap.size ≤ w'.heap.size → Below w.heap.size w w' → 0 < r.ds.length → ∃ b' off', some (⟨b, off, none⟩ : Addr) = some ⟨b', off', none⟩ ∧ b' < w'.heap.size ∧ FloatsAt w' b' off' r.ds from fun w' hs hb hp => 
    ⟨b, off, rfl, by omega, hfl.below hbw hb⟩)
  have HFL := Lib.hid hfl
  have OT := Lib.hid (checkTrackP_ok ht0)
  have O := Lib.hid (relErrP_ok hr0).1
  have HFI := Lib.hid hfi
  clear hfe he hfl ht0 hr0 hfi
  refine callsIn_wide.1 (callsIn_of_wp_marks (F := Fence.wide) (n := 9) Try.func95 rfl trivial (wpIn_wide.2 ?_) rfl)
  simp only [Try.ntmps95, List.size_toArray, List.length_cons, List.length_nil, Nat.reduceAdd, Nat.reduceSub, Array.replicate_succ, Array.replicate_zero, List.push_toArray, List.append_toArray, List.nil_append, List.cons_append]
  go_wp2
  go_region_held3 (fun w' => w'.cell? ⟨w.heap.size, 0, none⟩ = some (.int .i64 t.sx) ∧ w'.cell? ⟨w.heap.size, 1, none⟩ = some (.int .i64 t.sy) ∧ w'.cell? ⟨w.heap.size, 2, none⟩ = some (.int .i64 t.sz) ∧ w'.cell? ⟨w.heap.size, 3, none⟩ = some (.int .i64 t.step) ∧ w'.cell? ⟨w.heap.size, 4, none⟩ = some (.int .i64 t.lines) ∧ w'.cell? ⟨w.heap.size, 5, none⟩ = some (.int .i64 t.near) ∧ w'.cell? ⟨w.heap.size, 6, none⟩ = some (.int .i64 t.bin) ∧ w'.cell? ⟨w.heap.size, 7, none⟩ = some (.int .i64 t.bins) ∧ w'.cell? ⟨w.heap.size, 8, none⟩ = some (.bool t.east) ∧ w'.cell? ⟨w.heap.size + 1, 0, none⟩ = some (.int .i64 r.x) ∧ w'.cell? ⟨w.heap.size + 1, 1, none⟩ = some (.int .i64 r.y) ∧ w'.cell? ⟨w.heap.size + 1, 2, none⟩ = some (.int .i64 r.cell) ∧ w'.cell? ⟨w.heap.size + 1, 3, none⟩ = some (.int .i64 r.rows) ∧ w'.cell? ⟨w.heap.size + 1, 4, none⟩ = some (.int .i64 r.cols) ∧ w'.cell? ⟨w.heap.size + 1, 5, none⟩ = some (.slice (some ⟨b, off, none⟩) r.ds.length cap)) (first | ((first | (simp [go_sem]; done) | simp [go_sem, ↓IntWalk.iteOmega]); done)) (first | (go_at_call 24; refine (checkTrack_any t _).mono ?_; rintro e w' ⟨rfl, hb⟩; obtain ⟨p1, rfl⟩ := later_of_below hb; clear hb) | (go_at_call 42; refine (checkRelief_any fe r (some ⟨b, off, none⟩) cap _ (by omega) HFE.out (HA.out _ (by simp; omega) (by (repeat' (first | with_reducible exact Below.refl _ _ | (with_reducible refine below_later_of ?_ ?_ _) | (with_reducible refine Below.alloc ?_ ?_ _) | (with_reducible refine Below.setCell ?_ ?_ _) | (with_reducible refine Below.drew ?_) | (simp; done) | (simp; omega) | omega))))).mono ?_; rintro e w' ⟨rfl, hb⟩; obtain ⟨p2, rfl⟩ := later_of_below hb; clear hb) | (go_at_call 105; refine (first_e (checkTrackP t) (relErrP fe r) _ _ HE.out (by (first | (simp [go_sem]; done) | simp [go_sem, ↓IntWalk.iteOmega])) (by (first | (simp [go_sem]; done) | simp [go_sem, ↓IntWalk.iteOmega]))).mono ?_; rintro e w' ⟨rfl, rfl⟩))
  go_wp2
  obtain ⟨B8, hB8⟩ : ∃ B8, B8 = w.heap.size + 1 + 1 + 1 + 1 + 1 + p1.os.size + p2.os.size + 1 := ⟨_, rfl⟩
  refine wp_world (fun W => VLoop w B8 t r b off cap true W ∧ W.heap.size = B8 + 1) ⟨⟨(by (repeat' (first | with_reducible exact Below.refl _ _ | (with_reducible refine below_later_of ?_ ?_ _) | (with_reducible refine Below.alloc ?_ ?_ _) | (with_reducible refine Below.setCell ?_ ?_ _) | (with_reducible refine Below.drew ?_) | (simp; done) | (simp; omega) | omega))), ?_, ?_, ?_, heap_new_at _ _ _ (by simp; omega)⟩, by simp; omega⟩ ?_
  · refine ((show Below (w.heap.size + 1 + 1 + 1 + 1 + 1) (((((w.alloc (.cells #[.int .i64 t.sx, .int .i64 t.sy, .int .i64 t.sz, .int .i64 t.step, .int .i64 t.lines, .int .i64 t.near, .int .i64 t.bin, .int .i64 t.bins, .bool t.east] 25)).alloc (.cells #[.int .i64 r.x, .int .i64 r.y, .int .i64 r.cell, .int .i64 r.rows, .int .i64 r.cols, .slice (some ⟨b, off, none⟩) r.ds.length cap] 59)).alloc (.cells #[.int .i64 0, .int .i64 0, .int .i64 0, .int .i64 0, .int .i64 0, .int .i64 0, .int .i64 0, .int .i64 0, .bool false, .int .i64 0, .int .i64 0, .int .i64 0, .int .i64 0, .int .i64 0, .slice none 0 0] 144)).alloc (.cells #[.int .i64 0] 32)).alloc (.cells #[.int .i64 t.sx, .int .i64 t.sy, .int .i64 t.sz, .int .i64 t.step, .int .i64 t.lines, .int .i64 t.near, .int .i64 t.bin, .int .i64 t.bins, .bool t.east, .int .i64 r.x, .int .i64 r.y, .int .i64 r.cell, .int .i64 r.rows, .int .i64 r.cols, .slice (some ⟨b, off, none⟩) r.ds.length cap] 144)) _ from (by (repeat' (first | with_reducible exact Below.refl _ _ | (with_reducible refine below_later_of ?_ ?_ _) | (with_reducible refine Below.alloc ?_ ?_ _) | (with_reducible refine Below.setCell ?_ ?_ _) | (with_reducible refine Below.drew ?_) | (simp; done) | (simp; omega) | omega)))).block _ (by omega)).trans ?_
    exact (Below.heap_alloc _ _ _ (by simp)).trans ((Below.heap_alloc _ _ _ (by simp)).trans (heap_new_at _ _ _ (by simp)))
  · refine ((show Below (w.heap.size + 1 + 1 + 1 + 1 + 1) (((((w.alloc (.cells #[.int .i64 t.sx, .int .i64 t.sy, .int .i64 t.sz, .int .i64 t.step, .int .i64 t.lines, .int .i64 t.near, .int .i64 t.bin, .int .i64 t.bins, .bool t.east] 25)).alloc (.cells #[.int .i64 r.x, .int .i64 r.y, .int .i64 r.cell, .int .i64 r.rows, .int .i64 r.cols, .slice (some ⟨b, off, none⟩) r.ds.length cap] 59)).alloc (.cells #[.int .i64 0, .int .i64 0, .int .i64 0, .int .i64 0, .int .i64 0, .int .i64 0, .int .i64 0, .int .i64 0, .bool false, .int .i64 0, .int .i64 0, .int .i64 0, .int .i64 0, .int .i64 0, .slice none 0 0] 144)).alloc (.cells #[.int .i64 0] 32)).alloc (.cells #[.int .i64 t.sx, .int .i64 t.sy, .int .i64 t.sz, .int .i64 t.step, .int .i64 t.lines, .int .i64 t.near, .int .i64 t.bin, .int .i64 t.bins, .bool t.east, .int .i64 r.x, .int .i64 r.y, .int .i64 r.cell, .int .i64 r.rows, .int .i64 r.cols, .slice (some ⟨b, off, none⟩) r.ds.length cap] 144)) _ from (by (repeat' (first | with_reducible exact Below.refl _ _ | (with_reducible refine below_later_of ?_ ?_ _) | (with_reducible refine Below.alloc ?_ ?_ _) | (with_reducible refine Below.setCell ?_ ?_ _) | (with_reducible refine Below.drew ?_) | (simp; done) | (simp; omega) | omega)))).block _ (by omega)).trans ?_
    exact (Below.heap_alloc _ _ _ (by simp)).trans (heap_new_at _ _ _ (by simp))
  · refine ((show Below (w.heap.size + 1 + 1 + 1 + 1 + 1) (((((w.alloc (.cells #[.int .i64 t.sx, .int .i64 t.sy, .int .i64 t.sz, .int .i64 t.step, .int .i64 t.lines, .int .i64 t.near, .int .i64 t.bin, .int .i64 t.bins, .bool t.east] 25)).alloc (.cells #[.int .i64 r.x, .int .i64 r.y, .int .i64 r.cell, .int .i64 r.rows, .int .i64 r.cols, .slice (some ⟨b, off, none⟩) r.ds.length cap] 59)).alloc (.cells #[.int .i64 0, .int .i64 0, .int .i64 0, .int .i64 0, .int .i64 0, .int .i64 0, .int .i64 0, .int .i64 0, .bool false, .int .i64 0, .int .i64 0, .int .i64 0, .int .i64 0, .int .i64 0, .slice none 0 0] 144)).alloc (.cells #[.int .i64 0] 32)).alloc (.cells #[.int .i64 t.sx, .int .i64 t.sy, .int .i64 t.sz, .int .i64 t.step, .int .i64 t.lines, .int .i64 t.near, .int .i64 t.bin, .int .i64 t.bins, .bool t.east, .int .i64 r.x, .int .i64 r.y, .int .i64 r.cell, .int .i64 r.rows, .int .i64 r.cols, .slice (some ⟨b, off, none⟩) r.ds.length cap] 144)) _ from (by (repeat' (first | with_reducible exact Below.refl _ _ | (with_reducible refine below_later_of ?_ ?_ _) | (with_reducible refine Below.alloc ?_ ?_ _) | (with_reducible refine Below.setCell ?_ ?_ _) | (with_reducible refine Below.drew ?_) | (simp; done) | (simp; omega) | omega)))).block _ (by omega)).trans ?_
    exact heap_new_at _ _ _ (by simp)
  rintro WL ⟨hvl, hsl⟩
  rw [← hB8]
  have h8 : w.heap.size + 1 + 1 + 1 + 1 < B8 := by omega
  obtain ⟨nr, hnr⟩ : ∃ nr : Nat, r.rows = nr := ⟨r.rows.toNat, by have := O.out.r1; omega⟩
  obtain ⟨nc, hnc⟩ : ∃ nc : Nat, r.cols = nc := ⟨r.cols.toNat, by have := O.out.l1; omega⟩
  have hN : nr * nc = r.ds.length := by
    have := O.out.len
    rw [hnr, hnc, ← Int.natCast_mul] at this
    exact (Int.ofNat_inj.1 this).symm
  have HVL := Lib.hid hvl
  have HNR := Lib.hid hnr
  have HNC := Lib.hid hnc
  have HN := Lib.hid hN
  have HSL := Lib.hid hsl
  clear hvl hB8 hnr hnc hN hsl HE HFE HA
  refine wpIn_wide.1 (wpIn_rangeBound (n := 9) rfl (by omega) (gf := 126) rfl trivial (enters_of Try.func126 (by kernel_rfl) rfl) (N := nr * nc) (enc := encC nc) (fun k => rfl)
    (fun W _ => cells_iter 8 (by omega) t r b off cap O.out nr nc HNR.out HNC.out W)
    (fun k W => VLoop w B8 t r b off cap (deepUpto t r fi k) W ∧ B8 < W.heap.size ∧ ∀ j, j < k → 0 < offK t r j)
    (fun c W => c = .ret ∧ VEnd w t r b off cap 15 W ∧ BadOff t r)
    (fun k W1 W2 h hb => ⟨h.1.below (B := WL.heap.size) (by rw [HSL.out]; omega) (by rw [HSL.out]; omega) hb, Nat.lt_of_lt_of_le h.2.1 hb.size, h.2.2⟩)
    (fun c W1 W2 h hb => ⟨h.1, h.2.1.below (B := WL.heap.size) (by rw [HSL.out]; omega) hb, h.2.2⟩)
    ⟨HVL.out, by rw [HSL.out]; omega, fun j hj => by omega⟩
    (fun T k => (((T.setIfInBounds 29 (.int .i64 ((k / nc : Nat) : Int))).setIfInBounds 30 (.int .i64 ((k % nc : Nat) : Int))).setIfInBounds 9 (.int .i64 ((k / nc : Nat) : Int))).setIfInBounds 10 (.int .i64 ((k % nc : Nat) : Int)))
    ?assign ?body ?done ?stop)
  case assign =>
    intro l k W K hK
    simp only [encC]
    simp only [List.setIfInBounds_toArray, List.set_cons_succ, List.set_cons_zero] at hK
    gi_wp2
    exact hK
  case body =>
    rintro l k W ⟨hvl, hWs, hoff⟩ hkN hWL
    have hnc1 : 1 ≤ nc := by have := O.out.l1; have := HNC.out; omega
    have hi : k / nc < nr := Nat.div_lt_of_lt_mul (by rw [Nat.mul_comm]; exact hkN)
    have hj : k % nc < nc := Nat.mod_lt _ hnc1
    have hcn : r.cols.toNat = nc := by have := HNC.out; omega
    have hok : offK t r k = offP t (pxP r ((k % nc : Nat) : Int)) := by unfold offK; rw [hcn]; rfl
    have hdk : depK t r fi k = depthP t (fi (bitAt r.ds (idxP r ((k / nc : Nat) : Int) ((k % nc : Nat) : Int)))) := by unfold depK; rw [hcn]; rfl
    have hds := deepUpto_succ t r fi k
    have hi' : ((k / nc : Nat) : Int) < r.rows := by have := HNR.out; omega
    have hj' : ((k % nc : Nat) : Int) < r.cols := by have := HNC.out; omega
    obtain ⟨_, _, _, hil⟩ := idx_lt O.out (Int.natCast_nonneg _) hi' (Int.natCast_nonneg _) hj'
    obtain ⟨hf1, hf2, hf3⟩ := HFI.out _ hil
    refine viewBody _ (by kernel_rfl) fi t r b off cap w W B8 WL.heap.size l 5 (k / nc) (k % nc) _ _ _ _ OT.out O.out hi' hj' hf1 hf2 hf3 h8 (by rw [HSL.out]; omega) hWs hbw HFL.out hvl ?_ ?_ _ _ _ _ _ _ _ _ _ _ _ _ _ _ _ _ _ _ _ _ _ _ _ _ _ _ _ _ _ _ _ _ _ _ _ _ _ _ _ _ _ _ _
    · intro ho W' hv
      exact ⟨rfl, hv, k, by rw [← HN.out]; exact hkN, by rw [hok]; exact ho⟩
    · intro ho W' hv hs
      refine ⟨by rw [hds, hdk]; exact hv, hs, fun j hj => ?_⟩
      by_cases e : j = k
      · rw [e, hok]; omega
      · exact hoff j (by omega)
  case done =>
    rintro W ⟨hvl, hWs, hoff⟩ hD
    rw [HN.out] at hvl hoff
    have hnb : ¬ BadOff t r := fun ⟨k, h1, h2⟩ => by have := hoff k h1; omega
    have HW6 := Lib.hid hvl.h6
    have HW4 := Lib.hid hvl.h4
    have HVL2 := Lib.hid hvl
    obtain ⟨e8, f8⟩ := cell_box hvl.h8
    obtain ⟨e5, f5⟩ := cell_box hvl.h5
    have hwW : w.heap.size + 1 + 1 + 1 + 1 < W.heap.size := by omega
    have HEN := Lib.hid (show ∀ e : Int, VEnd w t r b off cap e ((W.setRow (w.heap.size + 1 + 1) #[.int .i64 t.sx, .int .i64 t.sy, .int .i64 t.sz, .int .i64 t.step, .int .i64 t.lines, .int .i64 t.near, .int .i64 t.bin, .int .i64 t.bins, .bool t.east, .int .i64 r.x, .int .i64 r.y, .int .i64 r.cell, .int .i64 r.rows, .int .i64 r.cols, .slice (some ⟨b, off, none⟩) r.ds.length cap]).setCell ⟨w.heap.size + 1 + 1 + 1, 0, none⟩ (.int .i64 e)) from fun e => by
      refine ⟨(below_setRow hvl.bel (by omega) _).setCell (by simp only; omega) _, ?_, ?_⟩
      · exact (Below.heap_setCell _ ⟨w.heap.size + 1 + 1 + 1, 0, none⟩ _ _ (by simp only; omega)).trans (setRow_heap _ _ _ _ _ _ hvl.h4)
      · exact heap_setCell_same _ _ _ _ _ _ ((setRow_other _ _ _ _ (by omega)).trans hvl.h5))
    have HDD := Lib.hid (show ∀ e : Int, ((W.setRow (w.heap.size + 1 + 1) #[.int .i64 t.sx, .int .i64 t.sy, .int .i64 t.sz, .int .i64 t.step, .int .i64 t.lines, .int .i64 t.near, .int .i64 t.bin, .int .i64 t.bins, .bool t.east, .int .i64 r.x, .int .i64 r.y, .int .i64 r.cell, .int .i64 r.rows, .int .i64 r.cols, .slice (some ⟨b, off, none⟩) r.ds.length cap]).setCell ⟨w.heap.size + 1 + 1 + 1, 0, none⟩ (.int .i64 e)).heap[WL.heap.size]? = some (.deferred (some [])) from fun e => by
      refine (Below.heap_setCell _ _ _ _ (by rw [HSL.out]; simp only; omega)).trans ((setRow_other _ _ _ _ (by rw [HSL.out]; omega)).trans hD)
      )
    have HQ2 := Lib.hid (show viewErrP fe fi t r = if deepUpto t r fi r.ds.length then 0 else 26 by rw [HQ.out, if_neg hnb])
    clear hvl hoff hD hnb HQ
    generalize deepUpto t r fi r.ds.length = d at e8 HQ2
    cases d
    · go_wp2_with (first | (refine wpList_load_row rfl 144 (.tmp 6) rfl _ rfl _ _ _ _ HW6.out Try.underlying144 rfl viewInfo ?_) | (refine wpList_store_row rfl 144 (.tmp 4) (.tmp 47) rfl _ #[.int .i64 t.sx, .int .i64 t.sy, .int .i64 t.sz, .int .i64 t.step, .int .i64 t.lines, .int .i64 t.near, .int .i64 t.bin, .int .i64 t.bins, .bool t.east, .int .i64 r.x, .int .i64 r.y, .int .i64 r.cell, .int .i64 r.rows, .int .i64 r.cols, .slice (some ⟨b, off, none⟩) r.ds.length cap] rfl rfl _ _ HW4.out viewInfo rfl (by simp [Value.oneCell']) ?_))
      exact viewLeave t r b off cap w _ WL.heap.size 26 (HEN.out _) (HDD.out _) (by rw [HSL.out]; omega) _ (fun W' hb => ⟨by rw [HQ2.out]; rfl, hb⟩) _ _ _ _ _ _ _ _ _ _ _ _ _ _ _ _ _ _ _ _ _ _ _ _ _ _ _ _ _ _ _ _ _ _ _ _ _ _ _ _ _ _ _ _ _ _ _
    · go_wp2_with (first | (refine wpList_load_row rfl 144 (.tmp 6) rfl _ rfl _ _ _ _ HW6.out Try.underlying144 rfl viewInfo ?_) | (refine wpList_store_row rfl 144 (.tmp 4) (.tmp 48) rfl _ #[.int .i64 t.sx, .int .i64 t.sy, .int .i64 t.sz, .int .i64 t.step, .int .i64 t.lines, .int .i64 t.near, .int .i64 t.bin, .int .i64 t.bins, .bool t.east, .int .i64 r.x, .int .i64 r.y, .int .i64 r.cell, .int .i64 r.rows, .int .i64 r.cols, .slice (some ⟨b, off, none⟩) r.ds.length cap] rfl rfl _ _ HW4.out viewInfo rfl (by simp [Value.oneCell']) ?_))
      exact viewLeave t r b off cap w _ WL.heap.size 0 (HEN.out _) (HDD.out _) (by rw [HSL.out]; omega) _ (fun W' hb => ⟨by rw [HQ2.out]; rfl, hb⟩) _ _ _ _ _ _ _ _ _ _ _ _ _ _ _ _ _ _ _ _ _ _ _ _ _ _ _ _ _ _ _ _ _ _ _ _ _ _ _ _ _ _ _ _ _ _ _
  case stop =>
    rintro c W ⟨rfl, hv, hbo⟩ hD
    gi_wp2
    exact viewLeave t r b off cap w W WL.heap.size 15 hv hD (by rw [HSL.out]; omega) _ (fun W' hb => ⟨by rw [HQ.out, if_pos hbo], hb⟩) _ _ _ _ _ _ _ _ _ _ _ _ _ _ _ _ _ _ _ _ _ _ _ _ _ _ _ _ _ _ _ _ _ _ _ _ _ _ _ _ _ _ _ _ _ _ _
end Go.Proofs.Ythnfepfbkmafaaa
