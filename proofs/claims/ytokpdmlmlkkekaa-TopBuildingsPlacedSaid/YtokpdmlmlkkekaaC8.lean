/- The round of Placed's loop. -/
import Derived.Test.YtokpdmlmlkkekaaC7
import Derived.Test.YtokpdmlmlkkekaaC5
import Derived.Test.YtokpdmlmlkkekaaZK
namespace Go.Proofs.Ytokpdmlmlkkekaa
set_option linter.unusedVariables false
open Go.RowKit
/-- What is known at the loop of Placed. -/
structure PLoop (w WL : World) (B8 : Nat) (t : Trk) (r : Rel) (b off cap : Nat) (u v : Int) (n : Nat) (xs : List Value) (W : World) : Prop where
  bel : Below w.heap.size w W
  sz : WL.heap.size ≤ W.heap.size
  h5 : W.heap[w.heap.size + 1 + 1]? = some (.cells #[.int .i64 u, .int .i64 v] 44 (0, 0))
  h8 : W.heap[B8]? = some (.cells #[.int .i64 t.sx, .int .i64 t.sy, .int .i64 t.sz, .int .i64 t.step, .int .i64 t.lines, .int .i64 t.near, .int .i64 t.bin, .int .i64 t.bins, .bool t.east, .int .i64 r.x, .int .i64 r.y, .int .i64 r.cell, .int .i64 r.rows, .int .i64 r.cols, .slice (some ⟨b, off, none⟩) r.ds.length cap] 150 (0, 0))
  own : ∃ val, Boxed W (B8 + 1) 99 val ∧ W.ownsRow WL.heap.size 44 2 val n xs
theorem PLoop.keep {w WL W W' : World} {B8 : Nat} {t : Trk} {r : Rel} {b off cap : Nat} {u v : Int} {n : Nat} {xs : List Value} (h : PLoop w WL B8 t r b off cap u v n xs W) (hw : w.heap.size ≤ WL.heap.size)
    (hb : Below WL.heap.size W W') (hc : CellsSame W W') : PLoop w WL B8 t r b off cap u v n xs W' := by
  obtain ⟨val, h1, h2⟩ := h.own
  exact ⟨h.bel.trans (hb.mono hw), Nat.le_trans h.sz hb.size, hc _ _ _ _ h.h5, hc _ _ _ _ h.h8, val, hc _ _ _ _ h1, ownsRow_same h2 hc⟩
/-- Behind an append: what lies below the rows' first block, and what is no row of theirs, is kept. -/
theorem grown_keep {W X w1 : World} {B e size n : Nat} {val : Value} {xs : List Value} (hX : Below W.heap.size W X) (hs : W.heap.size ≤ W.heap.size) (hB : B ≤ W.heap.size) (hg : X.grownBy w1 val.ownBlock) (ho : W.ownsRow B e size val n xs) :
    Below B W w1 ∧ KeepT e B W w1 := by
  refine ⟨(hX.mono hB).grown hg (Nat.le_trans hB hX.size) (fun g hg => (ho.lt g hg).1), Nat.le_trans hX.size hg.size, fun k h1 h2 h3 => ?_⟩
  refine (hg.block k (Nat.lt_of_lt_of_le h2 hX.size) (fun e' => ?_)).trans (hX.block k h2)
  obtain ⟨-, ⟨rfl, -⟩ | ⟨g, cap, cur, rfl, -, hc, -⟩⟩ := ho
  · simp [Value.ownBlock] at e'
  · obtain rfl : k = g := by simpa [Value.ownBlock] using e'
    exact h3 _ _ hc
theorem placed_next {w WL W w1 : World} {B8 : Nat} {t : Trk} {r : Rel} {b off cap : Nat} {u v : Int} {n m : Nat} {xs ys : List Value} {val val' : Value} (h : PLoop w WL B8 t r b off cap u v n xs W) (hw : w.heap.size ≤ WL.heap.size) (h8 : w.heap.size + 1 + 1 < B8) (hWL : B8 + 1 < WL.heap.size)
    (hb : Below WL.heap.size W w1) (hx : Boxed w1 (B8 + 1) 99 val) (ho : w1.ownsRow WL.heap.size 44 2 val' m ys) : PLoop w WL B8 t r b off cap u v m ys (w1.setCell ⟨B8 + 1, 0, none⟩ val') := by
  refine ⟨(h.bel.trans (hb.mono hw)).setCell (by simp only; omega) _, Nat.le_trans h.sz (by simpa [World.setCell] using hb.size), ?_, ?_, val', hx.set val', ?_⟩
  · exact (Below.heap_setCell _ ⟨B8 + 1, 0, none⟩ _ _ (by simp only; omega)).trans ((hb.block _ (by omega)).trans h.h5)
  · exact (Below.heap_setCell _ ⟨B8 + 1, 0, none⟩ _ _ (by simp only; omega)).trans ((hb.block _ (by omega)).trans h.h8)
  · obtain ⟨k1, k2 | ⟨g, cap, cur, k3, k4, k5, k6⟩⟩ := ho
    · exact ⟨k1, .inl k2⟩
    · exact ⟨k1, .inr ⟨g, cap, cur, k3, k4, (Below.heap_setCell _ ⟨B8 + 1, 0, none⟩ _ _ (by simp only; omega)).trans k5, k6⟩⟩
set_option maxRecDepth 20000 in
set_option maxHeartbeats 4000000 in
theorem placedBody (body : Code) (hbody : Try.f59.body.bind rangeBody = some body) (fi : Nat → Int) (t : Trk) (r : Rel) (b off cap : Nat) (u v : Int) (w WL W : World) (B8 l m i j n : Nat) (xs : List Value) (I : World → Prop) (Ix : Code → World → Prop)
    (ot : t.Ok) (o : r.Ok) (hi' : (i : Int) < r.rows) (hj' : (j : Int) < r.cols) (hf : FlInts fi r.ds) (hn : n ≤ 4096)
    (h8 : w.heap.size + 1 + 1 < B8) (hWL : B8 + 1 < WL.heap.size) (hbw : b < w.heap.size) (hfl : FloatsAt w b off r.ds) (hpl : PLoop w WL B8 t r b off cap u v n xs W)
    (hgo : ∀ W', PLoop w WL B8 t r b off cap u v (n + if hitB t r fi u v i j then 1 else 0) (xs ++ if hitB t r fi u v i j then [.int .i64 (i : Int), .int .i64 (j : Int)] else []) W' → I W')
    (u0 u1 u2 u3 u4 u6 u7 u9 u13 u14 u15 u16 u17 u18 u19 u20 u21 u22 u23 u24 u25 u26 u27 u28 u29 u30 u31 u32 u33 u34 u35 u36 u37 u38 u39 u40 u41 u42 : Value) :
    body.wpIn (Fence.wide.inRound l) (m + 2) Try.prog (boundPostT 44 WL.heap.size I Ix W) { tmps := #[u0, u1, u2, u3, u4, .pointer (some ⟨w.heap.size + 1 + 1, 0, none⟩), u6, u7, .pointer (some ⟨B8, 0, none⟩), u9, .pointer (some ⟨B8 + 1, 0, none⟩), .int .i64 (i : Int), .int .i64 (j : Int), u13, u14, u15, u16, u17, u18, u19, u20, u21, u22, u23, u24, u25, u26, u27, u28, u29, u30, u31, u32, u33, u34, u35, u36, u37, u38, u39, u40, u41, u42], defers := [] } W := by
  unfold Try.f59 at hbody
  simp only [Option.bind_some, rangeBody, Option.some.injEq] at hbody
  subst hbody
  obtain ⟨i0, hi0, hz0, hz1, hz2⟩ := info_parts info44
  obtain ⟨_, _, _, hil⟩ := idx_lt o (Int.natCast_nonneg i) hi' (Int.natCast_nonneg j) hj'
  obtain ⟨hf1, hf2, hf3⟩ := hf _ hil
  have X1 := px_coo o (Int.natCast_nonneg j) hj'
  have X2 := py_coo o (Int.natCast_nonneg i) hi'
  have X3 : Coo (fi (bitAt r.ds (idxP r i j))) := by unfold Coo; omega
  have hwW : w.heap.size ≤ W.heap.size := hpl.bel.size
  have hsW := hpl.sz
  have HPT := Lib.hid (show ∀ p : Regrown, Calls Try.prog 131 #[.agg #[.int .i64 r.x, .int .i64 r.y, .int .i64 r.cell, .int .i64 r.rows, .int .i64 r.cols, .slice (some ⟨b, off, none⟩) r.ds.length cap], .int .i64 (i : Int), .int .i64 (j : Int)] (later W p) fun e w' => e = .returned (.agg #[.int .i64 (pxP r j), .int .i64 (pyP r i), .int .i64 (fi (bitAt r.ds (idxP r i j)))]) ∧ Below (later W p).heap.size (later W p) w' from fun p =>
    point_any r b off cap _ _ _ _ o (Int.natCast_nonneg i) hi' (Int.natCast_nonneg j) hj' (by simp; omega) ((hfl.below hbw hpl.bel).below (show b < W.heap.size by omega) (below_later W p)) hf1)
  have HPX := Lib.hid (show ∀ p : Regrown, Calls Try.prog 93 #[.agg #[.int .i64 t.sx, .int .i64 t.sy, .int .i64 t.sz, .int .i64 t.step, .int .i64 t.lines, .int .i64 t.near, .int .i64 t.bin, .int .i64 t.bins, .bool t.east], .agg #[.int .i64 (pxP r j), .int .i64 (pyP r i), .int .i64 (fi (bitAt r.ds (idxP r i j)))]] (later W p) fun e w' => e = .returned (.agg #[.int .i64 (pixLP t r i), .int .i64 (pixBP t r fi i j)]) ∧ Below (later W p).heap.size (later W p) w' from fun p =>
    pixel_w t _ _ _ _ ot X1 X2 X3)
  have hhit : hitB t r fi u v i j = ((pixLP t r i == u) && (pixBP t r fi i j == v)) := rfl
  obtain ⟨val, hbx, hown⟩ := hpl.own
  have HVB := Lib.hid hpl
  have HGO := Lib.hid hgo
  have HBX := Lib.hid hbx
  have HO := Lib.hid hown
  obtain ⟨e10, f10⟩ := cell_box hbx
  obtain ⟨c0, c1, c2, c3, c4, c5, c6, c7, c8, c9, c10, c11, c12, c13, c14⟩ := viewAt_heap hpl.h8
  have q0 := cell_of_row W (w.heap.size + 1 + 1) 0 _ _ _ hpl.h5
  have q1 := cell_of_row W (w.heap.size + 1 + 1) 1 _ _ _ hpl.h5
  generalize pixLP t r i = ln at *
  generalize pixBP t r fi i j = bn at *
  clear X1 X2 X3 hf1 hf2 hf3 hf hfl hpl hgo ot o hbx hown
  by_cases k1 : ln = u
  · have k1' : (ln == u) = true := by simpa using k1
    by_cases k2 : bn = v
    · have k2' : (bn == v) = true := by simpa using k2
      have hh : hitB t r fi u v i j = true := by rw [hhit, k1', k2']; rfl
      rw [hh] at HGO
      have HG2 := Lib.hid (show ∀ W', PLoop w WL B8 t r b off cap u v (n + 1) (xs ++ [.int .i64 (i : Int), .int .i64 (j : Int)]) W' → I W' from fun W' h => HGO.out W' (by simpa using h))
      clear hhit hh HGO k1 k2
      gi_wp2
      refine wpIn_region_calm (fun ⟨_, _, h⟩ => h) (by kernel_rfl) (by kernel_rfl) (by kernel_rfl) ?_
      repeat (go_big_quiet_step (first | (go_at_call 131; exact calm_of (HPT.out _)) | (go_at_call 93; exact calm_of (HPX.out _))))
      refine wpQuiet_nil ?_
      rintro _ ⟨p1, rfl⟩
      gi_wp2_with (first | (gi_at_builtin; refine wpListIn_append_own _ rfl _ _ 99 rfl WL.heap.size 44 i0 (.agg #[.int .i64 0, .int .i64 0]) 2 16 Try.underlying99 hi0 hz0 hz1 hz2 rfl (by decide) _ _ _ rfl ((ownsRow_later HO.out _).alloc _) ⟨(later W p1).heap.size, 0, none⟩ 1 1 [.int .i64 (i : Int), .int .i64 (j : Int)] (by simp; rfl) rfl ?c1 ?c2 ?c3 ?c4 ?c5 ?_))
      case c1 => exact cells_new _ [_, _] _
      case c2 => intro x hx; simp at hx; rcases hx with rfl | rfl <;> rfl
      case c3 => unfold maxLen; omega
      case c4 => omega
      case c5 => simp; omega
      intro v' w1 hown' hgrow _
      obtain ⟨g, cp, rfl⟩ := ownsRow_succ hown'
      obtain ⟨hbel, hkt⟩ := grown_keep (show Below W.heap.size W _ from (by (repeat' (first | with_reducible exact Below.refl _ _ | (with_reducible refine below_later_of ?_ ?_ _) | (with_reducible refine Below.alloc ?_ ?_ _) | (with_reducible refine Below.setCell ?_ ?_ _) | (with_reducible refine Below.drew ?_) | (simp; done) | (simp; omega) | omega)))) (Nat.le_refl _) hsW hgrow HO.out
      have hbx1 : Boxed w1 (B8 + 1) 99 val := (hbel.block _ hWL).trans HBX.out
      obtain ⟨e1, f1⟩ := cell_box hbx1
      have HBX1 := Lib.hid hbx1
      have HBEL := Lib.hid hbel
      have HKT := Lib.hid hkt
      have HO1 := Lib.hid hown'
      have hs1 := hbel.size
      clear hgrow hown' hbx1 hbel hkt e10 f10
      gi_wp2
      exact ⟨HKT.out.setCell hWL _, HG2.out _ (placed_next HVB.out (by omega) h8 hWL HBEL.out HBX1.out HO1.out)⟩
    · have k2' : (bn == v) = false := by simpa using k2
      have hh : hitB t r fi u v i j = false := by rw [hhit, k1', k2']; rfl
      rw [hh] at HGO
      have HG2 := Lib.hid (show ∀ W', PLoop w WL B8 t r b off cap u v n xs W' → I W' from fun W' h => HGO.out W' (by simpa using h))
      clear hhit hh HGO
      gi_wp2
      refine wpIn_region_calm (fun ⟨_, _, h⟩ => h) (by kernel_rfl) (by kernel_rfl) (by kernel_rfl) ?_
      repeat (go_big_quiet_step (first | (go_at_call 131; exact calm_of (HPT.out _)) | (go_at_call 93; exact calm_of (HPX.out _))))
      refine wpQuiet_nil ?_
      rintro _ ⟨p1, rfl⟩
      gi_wp2
      exact ⟨KeepT.below (by (repeat' (first | with_reducible exact Below.refl _ _ | (with_reducible refine below_later_of ?_ ?_ _) | (with_reducible refine Below.alloc ?_ ?_ _) | (with_reducible refine Below.setCell ?_ ?_ _) | (with_reducible refine Below.drew ?_) | (simp; done) | (simp; omega) | omega))), HG2.out _ (HVB.out.keep (by omega) (below_mono_of hsW (by (repeat' (first | with_reducible exact Below.refl _ _ | (with_reducible refine below_later_of ?_ ?_ _) | (with_reducible refine Below.alloc ?_ ?_ _) | (with_reducible refine Below.setCell ?_ ?_ _) | (with_reducible refine Below.drew ?_) | (simp; done) | (simp; omega) | omega)))) (CellsSame.below (by (repeat' (first | with_reducible exact Below.refl _ _ | (with_reducible refine below_later_of ?_ ?_ _) | (with_reducible refine Below.alloc ?_ ?_ _) | (with_reducible refine Below.setCell ?_ ?_ _) | (with_reducible refine Below.drew ?_) | (simp; done) | (simp; omega) | omega)))))⟩
  · have k1' : (ln == u) = false := by simpa using k1
    have hh : hitB t r fi u v i j = false := by rw [hhit, k1']; rfl
    rw [hh] at HGO
    have HG2 := Lib.hid (show ∀ W', PLoop w WL B8 t r b off cap u v n xs W' → I W' from fun W' h => HGO.out W' (by simpa using h))
    clear hhit hh HGO
    gi_wp2
    refine wpIn_region_calm (fun ⟨_, _, h⟩ => h) (by kernel_rfl) (by kernel_rfl) (by kernel_rfl) ?_
    repeat (go_big_quiet_step (first | (go_at_call 131; exact calm_of (HPT.out _)) | (go_at_call 93; exact calm_of (HPX.out _))))
    refine wpQuiet_nil ?_
    rintro _ ⟨p1, rfl⟩
    gi_wp2
    exact ⟨KeepT.below (by (repeat' (first | with_reducible exact Below.refl _ _ | (with_reducible refine below_later_of ?_ ?_ _) | (with_reducible refine Below.alloc ?_ ?_ _) | (with_reducible refine Below.setCell ?_ ?_ _) | (with_reducible refine Below.drew ?_) | (simp; done) | (simp; omega) | omega))), HG2.out _ (HVB.out.keep (by omega) (below_mono_of hsW (by (repeat' (first | with_reducible exact Below.refl _ _ | (with_reducible refine below_later_of ?_ ?_ _) | (with_reducible refine Below.alloc ?_ ?_ _) | (with_reducible refine Below.setCell ?_ ?_ _) | (with_reducible refine Below.drew ?_) | (simp; done) | (simp; omega) | omega)))) (CellsSame.below (by (repeat' (first | with_reducible exact Below.refl _ _ | (with_reducible refine below_later_of ?_ ?_ _) | (with_reducible refine Below.alloc ?_ ?_ _) | (with_reducible refine Below.setCell ?_ ?_ _) | (with_reducible refine Below.drew ?_) | (simp; done) | (simp; omega) | omega)))))⟩
end Go.Proofs.Ytokpdmlmlkkekaa
