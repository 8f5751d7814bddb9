/- Placed. -/
import Derived.Test.YtokpdmlmlkkekaaC8
namespace Go.Proofs.Ytokpdmlmlkkekaa
set_option linter.unusedVariables false
open Go.RowKit
theorem CellsSame.deferred {W : World} {l : Nat} {d : Option (List Deferred)} (h : W.heap[l]? = some (.deferred d)) (o : Obj) : CellsSame W (W.putObj l o) := fun k cs T fr e => by
  refine (World.putObj_heap_other ?_).trans e
  rintro rfl
  rw [h] at e
  cases e
set_option maxRecDepth 20000 in
set_option maxHeartbeats 1000000 in
theorem placed_bad (t : Trk) (r : Rel) (a : Option Addr) (cap : Nat) (u v : Int) (w : World) (h : RelAt feB intB w r a) {e0 : Int} (he : viewErrP feB intB t r = e0) (hz : e0 ≠ 0) :
    Calls Try.prog 59 #[.agg #[.int .i64 t.sx, .int .i64 t.sy, .int .i64 t.sz, .int .i64 t.step, .int .i64 t.lines, .int .i64 t.near, .int .i64 t.bin, .int .i64 t.bins, .bool t.east], .agg #[.int .i64 r.x, .int .i64 r.y, .int .i64 r.cell, .int .i64 r.rows, .int .i64 r.cols, .slice a r.ds.length cap], .agg #[.int .i64 u, .int .i64 v]] w fun e w' => e = .returned (.tuple #[.slice none 0 0, .int .i64 e0]) ∧ Below w.heap.size w w' := by
  have HR := Lib.hid h
  have HE := Lib.hid he
  clear h he
  go_enter Try.func59, Try.ntmps59
  go_wp2_with (first | (go_at_call 101; refine (viewOf_any feB intB t r _ cap _ (HR.out.below (by (repeat' (first | with_reducible exact Below.refl _ _ | (with_reducible refine below_later_of ?_ ?_ _) | (with_reducible refine Below.alloc ?_ ?_ _) | (with_reducible refine Below.setCell ?_ ?_ _) | (with_reducible refine Below.drew ?_) | (simp; done) | (simp; omega) | omega)))) HE.out).mono ?_; rintro e w' ⟨rfl, hb⟩; obtain ⟨p1, rfl⟩ := later_of_below hb; clear hb))
  refine bodyPost_ret ?_ rfl ⟨rfl, (by (repeat' (first | with_reducible exact Below.refl _ _ | (with_reducible refine below_later_of ?_ ?_ _) | (with_reducible refine Below.alloc ?_ ?_ _) | (with_reducible refine Below.setCell ?_ ?_ _) | (with_reducible refine Below.drew ?_) | (simp; done) | (simp; omega) | omega)))⟩
  first | (simp [results, Try.results59, go_sem]; done) | simp [results, Try.results59, go_sem, ↓IntWalk.iteOmega]
set_option maxRecDepth 20000 in
set_option maxHeartbeats 4000000 in
theorem placed_ok (t : Trk) (r : Rel) (a : Option Addr) (cap : Nat) (u v : Int) (w : World) (h : RelAt feB intB w r a) (he : viewErrP feB intB t r = 0) :
    Calls Try.prog 59 #[.agg #[.int .i64 t.sx, .int .i64 t.sy, .int .i64 t.sz, .int .i64 t.step, .int .i64 t.lines, .int .i64 t.near, .int .i64 t.bin, .int .i64 t.bins, .bool t.east], .agg #[.int .i64 r.x, .int .i64 r.y, .int .i64 r.cell, .int .i64 r.rows, .int .i64 r.cols, .slice a r.ds.length cap], .agg #[.int .i64 u, .int .i64 v]] w fun e w' => ∃ val, e = .returned (.tuple #[val, .int .i64 0]) ∧ w'.ownsRow w.heap.size 44 2 val (cnGrid t r intB u v r.rows.toNat) (plGrid t r intB u v r.rows.toNat) ∧ Below w.heap.size w w' := by
  have HR := Lib.hid h
  have HE := Lib.hid he
  obtain ⟨h1, h2, -, -⟩ := viewErrP_ok he
  obtain ⟨b, off, rfl, hbw, hfl⟩ := h.pos h2
  have HFI := Lib.hid (h.ints h2)
  have HFL := Lib.hid hfl
  have OT := Lib.hid (checkTrackP_ok h1)
  have o := (relErrP_ok h2).1
  have O := Lib.hid o
  obtain ⟨nr, hnr⟩ : ∃ nr : Nat, r.rows = nr := ⟨r.rows.toNat, by have := o.r1; omega⟩
  obtain ⟨nc, hnc⟩ : ∃ nc : Nat, r.cols = nc := ⟨r.cols.toNat, by have := o.l1; omega⟩
  have HNR := Lib.hid hnr
  have HNC := Lib.hid hnc
  have hnr2 : r.rows.toNat = nr := by omega
  rw [hnr2]
  have HG := Lib.hid (num_grid t r intB u v nc (by omega) nr)
  have b3 : nr ≤ 64 := by have := o.r2; omega
  have b4 : nc ≤ 64 := by have := o.l2; omega
  have hN : nr * nc ≤ 4096 := Nat.mul_le_mul b3 b4
  clear h he h1 h2 hfl hnr hnc hnr2 o
  refine callsIn_wide.1 (callsIn_of_wp_marks (F := Fence.wide) (n := 9) Try.func59 rfl trivial (wpIn_wide.2 ?_) rfl)
  simp only [Try.ntmps59, List.size_toArray, List.length_cons, List.length_nil, Nat.reduceAdd, Nat.reduceSub, Array.replicate_succ, Array.replicate_zero, List.push_toArray, List.append_toArray, List.nil_append, List.cons_append]
  go_wp2_with (first | (go_at_call 101; refine (viewOf_any feB intB t r _ cap _ (HR.out.below (by (repeat' (first | with_reducible exact Below.refl _ _ | (with_reducible refine below_later_of ?_ ?_ _) | (with_reducible refine Below.alloc ?_ ?_ _) | (with_reducible refine Below.setCell ?_ ?_ _) | (with_reducible refine Below.drew ?_) | (simp; done) | (simp; omega) | omega)))) HE.out).mono ?_; rintro e w' ⟨rfl, hb⟩; obtain ⟨p1, rfl⟩ := later_of_below hb; clear hb) | (refine wpList_store_row rfl 150 (.tmp 8) (.tmp 17) rfl _ #[.int .i64 t.sx, .int .i64 t.sy, .int .i64 t.sz, .int .i64 t.step, .int .i64 t.lines, .int .i64 t.near, .int .i64 t.bin, .int .i64 t.bins, .bool t.east, .int .i64 r.x, .int .i64 r.y, .int .i64 r.cell, .int .i64 r.rows, .int .i64 r.cols, .slice (some ⟨b, off, none⟩) r.ds.length cap] rfl rfl _ _ (heap_alloc_new _ _) viewInfo rfl (by simp [Value.oneCell']) ?_) | (refine wpList_load_row rfl 150 (.tmp 8) rfl _ rfl _ _ _ _ ((Below.heap_alloc _ _ _ (by simp)).trans (setRow_heap _ _ _ _ _ _ (heap_alloc_new _ _))) Try.underlying150 rfl viewInfo ?_))
  obtain ⟨B8, hB8⟩ : ∃ B8, B8 = w.heap.size + 1 + 1 + 1 + p1.os.size := ⟨_, rfl⟩
  refine wp_world (fun W => W.heap.size = B8 + 1 + 1 ∧ Below w.heap.size w W ∧ W.heap[w.heap.size + 1 + 1]? = some (.cells #[.int .i64 u, .int .i64 v] 44 (0, 0)) ∧ W.heap[B8]? = some (.cells #[.int .i64 t.sx, .int .i64 t.sy, .int .i64 t.sz, .int .i64 t.step, .int .i64 t.lines, .int .i64 t.near, .int .i64 t.bin, .int .i64 t.bins, .bool t.east, .int .i64 r.x, .int .i64 r.y, .int .i64 r.cell, .int .i64 r.rows, .int .i64 r.cols, .slice (some ⟨b, off, none⟩) r.ds.length cap] 150 (0, 0)) ∧ Boxed W (B8 + 1) 99 (.slice none 0 0)) ⟨by simp; omega, (by (repeat' (first | with_reducible exact Below.refl _ _ | (with_reducible refine below_later_of ?_ ?_ _) | (with_reducible refine Below.alloc ?_ ?_ _) | (with_reducible refine Below.setCell ?_ ?_ _) | (with_reducible refine Below.drew ?_) | (simp; done) | (simp; omega) | omega))), ?_, ?_, heap_new_at _ _ _ (by simp; omega)⟩ ?_
  · refine ((show Below (w.heap.size + 1 + 1 + 1) (((w.alloc (.cells #[.int .i64 t.sx, .int .i64 t.sy, .int .i64 t.sz, .int .i64 t.step, .int .i64 t.lines, .int .i64 t.near, .int .i64 t.bin, .int .i64 t.bins, .bool t.east] 25)).alloc (.cells #[.int .i64 r.x, .int .i64 r.y, .int .i64 r.cell, .int .i64 r.rows, .int .i64 r.cols, .slice (some ⟨b, off, none⟩) r.ds.length cap] 59)).alloc (.cells #[.int .i64 u, .int .i64 v] 44)) _ from (by (repeat' (first | with_reducible exact Below.refl _ _ | (with_reducible refine below_later_of ?_ ?_ _) | (with_reducible refine Below.alloc ?_ ?_ _) | (with_reducible refine Below.setCell ?_ ?_ _) | (with_reducible refine Below.drew ?_) | (simp; done) | (simp; omega) | omega)))).block _ (by omega)).trans ?_
    exact heap_new_at _ _ _ (by simp)
  · exact (Below.heap_alloc _ _ _ (by simp; omega)).trans (heap_new_at _ _ _ (by simp; omega))
  rintro WL ⟨hsl, hbl, h5l, h8l, hxl⟩
  simp only [← hB8]
  have h8 : w.heap.size + 1 + 1 < B8 := by omega
  have hpl0 : PLoop w WL B8 t r b off cap u v 0 [] WL := ⟨hbl, Nat.le_refl _, h5l, h8l, _, hxl, World.ownsRow_nil _ _ _ _⟩
  have HPL := Lib.hid hpl0
  have HSL := Lib.hid hsl
  have hWL : B8 + 1 < WL.heap.size := by omega
  have hwl : w.heap.size ≤ WL.heap.size := by omega
  clear hsl hbl h5l h8l hxl hpl0 hB8 HE
  refine wpIn_wide.1 (wpIn_rangeBoundT 44 (n := 9) rfl (by omega) (gf := 130) rfl trivial (enters_of Try.func130 (by kernel_rfl) rfl) (N := nr * nc) (enc := encC nc) (fun k => rfl)
    (fun W _ => cells_iterT 44 (by decide) 8 (by omega) t r b off cap O.out nr nc HNR.out HNC.out W)
    (fun k W => PLoop w WL B8 t r b off cap u v (cnNum t r intB u v nc k) (plNum t r intB u v nc k) W)
    (fun _ _ => False)
    (fun k W1 W2 h hb hc => h.keep hwl hb hc)
    (fun c W1 W2 h hb hc => h)
    HPL.out
    (fun T k => (((T.setIfInBounds 24 (.int .i64 ((k / nc : Nat) : Int))).setIfInBounds 25 (.int .i64 ((k % nc : Nat) : Int))).setIfInBounds 11 (.int .i64 ((k / nc : Nat) : Int))).setIfInBounds 12 (.int .i64 ((k % nc : Nat) : Int)))
    ?assign ?body ?done ?stop)
  case assign =>
    intro l k W K hK
    simp only [encC]
    simp only [List.setIfInBounds_toArray, List.set_cons_succ, List.set_cons_zero] at hK
    gi_wp2
    exact hK
  case body =>
    rintro l k W hpl hkN hWs
    have hnc1 : 1 ≤ nc := by have := O.out.l1; have := HNC.out; omega
    have hi : k / nc < nr := Nat.div_lt_of_lt_mul (by rw [Nat.mul_comm]; exact hkN)
    have hj : k % nc < nc := Nat.mod_lt _ hnc1
    have hi' : ((k / nc : Nat) : Int) < r.rows := by have := HNR.out; omega
    have hj' : ((k % nc : Nat) : Int) < r.cols := by have := HNC.out; omega
    have hle := cnNum_le t r intB u v nc k
    exact placedBody _ (by kernel_rfl) intB t r b off cap u v w WL W B8 l 5 (k / nc) (k % nc) _ _ _ _ OT.out O.out hi' hj' HFI.out (by omega) h8 hWL hbw HFL.out hpl (fun W' h => h) _ _ _ _ _ _ _ _ _ _ _ _ _ _ _ _ _ _ _ _ _ _ _ _ _ _ _ _ _ _ _ _ _ _ _ _ _ _
  case done =>
    rintro W hpl hD
    obtain ⟨val, hbx, hown⟩ := hpl.own
    rw [HG.out.1, HG.out.2] at hown
    obtain ⟨e10, f10⟩ := cell_box hbx
    have HB := Lib.hid hpl.bel
    have HO := Lib.hid hown
    have HD := Lib.hid hD
    have hsW := hpl.sz
    clear hpl hbx hown hD
    go_wp2
    refine ⟨by simp, .inl ⟨_, _, rfl, run_takeDeferred HD.out, ?_⟩⟩
    have hb : Below WL.heap.size W (W.putObj WL.heap.size (.deferred none)) := below_putObj (Nat.le_refl _) _
    refine ⟨_, ?_, _, rfl, ownsRow_same (ownsRow_mono HO.out hwl) (CellsSame.deferred HD.out _), HB.out.trans (hb.mono hwl)⟩
    simp [results, Try.results59, go_sem]
  case stop =>
    rintro c W h hD
    exact h.elim
end Go.Proofs.Ytokpdmlmlkkekaa
