/- The round of viewOf's loop. -/
import Derived.Test.YthnfepfbkmafaaaK7
import Derived.Shelf.Abstract
namespace Go.Proofs.Ythnfepfbkmafaaa
set_option linter.unusedVariables false
open Go.RowKit

theorem wp_world {P : Program} {c : Code} {Q : Exit → Act → World → Prop} {a : Act} {w : World} (F : World → Prop) (hf : F w) (h : ∀ W, F W → Code.wp P c Q a W) : Code.wp P c Q a w := h w hf
theorem heap_new_at (w : World) (o : Obj) (k : Nat) (h : k = w.heap.size) : (w.alloc o).heap[k]? = some o := by subst h; exact heap_alloc_new w o
/-- A cell of a row that was just written: not looked into. -/
def rowCell (w : World) (m : Nat) (cs : Array Value) (a : Addr) : Option Value := (w.setRow m cs).cell? a
@[go_sem] theorem cell_setRow_pick (w : World) (m : Nat) (cs : Array Value) (n i : Nat) : (w.setRow m cs).cell? ⟨n, i, none⟩ = pickEq m n (rowCell w m cs ⟨n, i, none⟩) (w.cell? ⟨n, i, none⟩) := by
  unfold pickEq
  split
  · rfl
  · exact World.cell?_of_block (setRow_other w m n cs (by omega))
def rowFrozen (w : World) (m : Nat) (cs : Array Value) (a : Addr) : Bool := (w.setRow m cs).frozen? a
@[go_sem] theorem frozen_setRow_pick (w : World) (m : Nat) (cs : Array Value) (n i : Nat) : (w.setRow m cs).frozen? ⟨n, i, none⟩ = pickEq m n (rowFrozen w m cs ⟨n, i, none⟩) (w.frozen? ⟨n, i, none⟩) := by
  unfold pickEq
  split
  · rfl
  · exact World.frozen?_of_block (setRow_other w m n cs (by omega))
theorem below_setRow {B : Nat} {a w : World} (h : Below B a w) {g : Nat} (hg : B ≤ g) (cs : Array Value) : Below B a (w.setRow g cs) :=
  h.trans ⟨rfl, rfl, rfl, by simp, fun k hk => setRow_other _ _ _ _ (by omega)⟩
theorem KeepTop.setRow {B : Nat} {X Y : World} (h : KeepTop B X Y) {g : Nat} (hg : g < B) (cs : Array Value) : KeepTop B X (Y.setRow g cs) :=
  ⟨by simpa using h.size, fun i h1 h2 => (setRow_other _ _ _ _ (by omega)).trans (h.same i h1 h2)⟩
theorem cell_box {W : World} {g : Nat} {v : Value} {T : TypeId} (h : W.heap[g]? = some (.cells #[v] T (0, 0))) : W.cell? ⟨g, 0, none⟩ = some v ∧ W.frozen? ⟨g, 0, none⟩ = false :=
  ⟨by rw [cell_of_row W g 0 _ _ _ h]; rfl, frozen_of_row W g 0 _ _ h⟩
theorem deepUpto_succ (t : Trk) (r : Rel) (fi : Nat → Int) (k : Nat) : deepUpto t r fi (k + 1) = (deepUpto t r fi k && decide (1 ≤ depK t r fi k)) := by
  unfold deepUpto; rw [List.range_succ, List.all_append]; simp
theorem viewInfo : (Try.prog.info? 144).map (·.size) = some 15 := by kernel_rfl
/-- What is known at the loop of viewOf. -/
structure VLoop (w : World) (B8 : Nat) (t : Trk) (r : Rel) (b off cap : Nat) (d : Bool) (W : World) : Prop where
  bel : Below w.heap.size w W
  h4 : W.heap[w.heap.size + 1 + 1]? = some (.cells #[.int .i64 0, .int .i64 0, .int .i64 0, .int .i64 0, .int .i64 0, .int .i64 0, .int .i64 0, .int .i64 0, .bool false, .int .i64 0, .int .i64 0, .int .i64 0, .int .i64 0, .int .i64 0, .slice none 0 0] 144 (0, 0))
  h5 : W.heap[w.heap.size + 1 + 1 + 1]? = some (.cells #[.int .i64 0] 32 (0, 0))
  h6 : W.heap[w.heap.size + 1 + 1 + 1 + 1]? = some (.cells #[.int .i64 t.sx, .int .i64 t.sy, .int .i64 t.sz, .int .i64 t.step, .int .i64 t.lines, .int .i64 t.near, .int .i64 t.bin, .int .i64 t.bins, .bool t.east, .int .i64 r.x, .int .i64 r.y, .int .i64 r.cell, .int .i64 r.rows, .int .i64 r.cols, .slice (some ⟨b, off, none⟩) r.ds.length cap] 144 (0, 0))
  h8 : W.heap[B8]? = some (.cells #[.bool d] 4 (0, 0))
theorem VLoop.below {w W W' : World} {B8 B : Nat} {t : Trk} {r : Rel} {b off cap : Nat} {d : Bool} (h : VLoop w B8 t r b off cap d W) (hB : w.heap.size + 1 + 1 + 1 + 1 < B) (h8 : B8 < B) (hw : Below B W W') : VLoop w B8 t r b off cap d W' :=
  ⟨h.bel.trans (hw.mono (by omega)), (hw.block _ (by omega)).trans h.h4, (hw.block _ (by omega)).trans h.h5, (hw.block _ (by omega)).trans h.h6, (hw.block _ h8).trans h.h8⟩
/-- What is known where a round has left. -/
structure VEnd (w : World) (t : Trk) (r : Rel) (b off cap : Nat) (e : Int) (W : World) : Prop where
  bel : Below w.heap.size w W
  h4 : W.heap[w.heap.size + 1 + 1]? = some (.cells #[.int .i64 t.sx, .int .i64 t.sy, .int .i64 t.sz, .int .i64 t.step, .int .i64 t.lines, .int .i64 t.near, .int .i64 t.bin, .int .i64 t.bins, .bool t.east, .int .i64 r.x, .int .i64 r.y, .int .i64 r.cell, .int .i64 r.rows, .int .i64 r.cols, .slice (some ⟨b, off, none⟩) r.ds.length cap] 144 (0, 0))
  h5 : W.heap[w.heap.size + 1 + 1 + 1]? = some (.cells #[.int .i64 e] 32 (0, 0))
theorem VEnd.below {w W W' : World} {B : Nat} {t : Trk} {r : Rel} {b off cap : Nat} {e : Int} (h : VEnd w t r b off cap e W) (hB : w.heap.size + 1 + 1 + 1 < B) (hw : Below B W W') : VEnd w t r b off cap e W' :=
  ⟨h.bel.trans (hw.mono (by omega)), (hw.block _ (by omega)).trans h.h4, (hw.block _ (by omega)).trans h.h5⟩

/-- The body of the first range over a function in a code. -/
def rangeBody : Code → Option Code
  | .seq a b => match rangeBody a with | some c => some c | none => rangeBody b
  | .cond _ a b => match rangeBody a with | some c => some c | none => rangeBody b
  | .block _ c => rangeBody c
  | .loop c => rangeBody c
  | .scope c => rangeBody c
  | .rangeFunc _ _ _ body => some body
  | _ => none
set_option maxRecDepth 20000 in
set_option maxHeartbeats 2000000 in
theorem viewBody (body : Code) (hbody : Try.f95.body.bind rangeBody = some body) (fi : Nat → Int) (t : Trk) (r : Rel) (b off cap : Nat) (w W : World) (B8 C l m : Nat) (i j : Nat) (d : Bool) (hz : Int) (I : World → Prop) (Ix : Code → World → Prop)
    (ot : t.Ok) (o : r.Ok) (hi' : (i : Int) < r.rows) (hj' : (j : Int) < r.cols) (hf1 : FlInt (bitAt r.ds (idxP r i j)) hz) (hf2 : -1000000 ≤ hz) (hf3 : hz ≤ 1000000)
    (h8 : w.heap.size + 1 + 1 + 1 + 1 < B8) (hC : B8 < C) (hWs : B8 < W.heap.size) (hbw : b < w.heap.size) (hfl : FloatsAt w b off r.ds) (hvl : VLoop w B8 t r b off cap d W)
    (hstop : offP t (pxP r j) ≤ 0 → ∀ W', VEnd w t r b off cap 15 W' → Ix .ret W')
    (hgo : ¬ offP t (pxP r j) ≤ 0 → ∀ W', VLoop w B8 t r b off cap (d && decide (1 ≤ depthP t hz)) W' → B8 < W'.heap.size → I W')
    (u0 u1 u2 u3 u7 u11 u12 u13 u14 u15 u16 u17 u18 u19 u20 u21 u22 u23 u24 u25 u26 u27 u28 u29 u30 u31 u32 u33 u34 u35 u36 u37 u38 u39 u40 u41 u42 u43 u44 u45 u46 u47 u48 : Value) :
    body.wpIn (Fence.wide.inRound l) (m + 2) Try.prog (boundPost C I Ix W) { tmps := #[u0, u1, u2, u3, .pointer (some ⟨w.heap.size + 1 + 1, 0, none⟩), .pointer (some ⟨w.heap.size + 1 + 1 + 1, 0, none⟩), .pointer (some ⟨w.heap.size + 1 + 1 + 1 + 1, 0, none⟩), u7, .pointer (some ⟨B8, 0, none⟩), .int .i64 (i : Int), .int .i64 (j : Int), u11, u12, u13, u14, u15, u16, u17, u18, u19, u20, u21, u22, u23, u24, u25, u26, u27, u28, u29, u30, u31, u32, u33, u34, u35, u36, u37, u38, u39, u40, u41, u42, u43, u44, u45, u46, u47, u48], defers := [] } W := by
  unfold Try.f95 at hbody
  simp only [Option.bind_some, rangeBody, Option.some.injEq] at hbody
  subst hbody
  have HF1 := Lib.hid hf1
  have OT := Lib.hid ot
  have O := Lib.hid o
  have HVB := Lib.hid hvl
  have HST := Lib.hid hstop
  have HGO := Lib.hid hgo
  have H6 := Lib.hid (show ∀ W', Below W.heap.size W W' → W'.heap[w.heap.size + 1 + 1 + 1 + 1]? = some (.cells #[.int .i64 t.sx, .int .i64 t.sy, .int .i64 t.sz, .int .i64 t.step, .int .i64 t.lines, .int .i64 t.near, .int .i64 t.bin, .int .i64 t.bins, .bool t.east, .int .i64 r.x, .int .i64 r.y, .int .i64 r.cell, .int .i64 r.rows, .int .i64 r.cols, .slice (some ⟨b, off, none⟩) r.ds.length cap] 144 (0, 0)) from fun W' hb => (hb.block _ (by omega)).trans hvl.h6)
  have H4 := Lib.hid (show ∀ W', Below W.heap.size W W' → W'.heap[w.heap.size + 1 + 1]? = some (.cells #[.int .i64 0, .int .i64 0, .int .i64 0, .int .i64 0, .int .i64 0, .int .i64 0, .int .i64 0, .int .i64 0, .bool false, .int .i64 0, .int .i64 0, .int .i64 0, .int .i64 0, .int .i64 0, .slice none 0 0] 144 (0, 0)) from fun W' hb => (hb.block _ (by omega)).trans hvl.h4)
  obtain ⟨e8, f8⟩ := cell_box hvl.h8
  obtain ⟨e5, f5⟩ := cell_box hvl.h5
  have hbW : b < W.heap.size := by have := hvl.bel.size; omega
  have HFW := Lib.hid (hfl.below hbw hvl.bel)
  have hwW : w.heap.size + 1 + 1 + 1 + 1 < W.heap.size := by omega
  clear hf1 hvl hstop hgo ot o hfl
  have hszb := HVB.out.bel.size
  by_cases ho : offP t (pxP r j) ≤ 0
  · gi_wp2_with (first | (refine ⟨trivial, ?_⟩; gi_at_call 137; refine (callsIn_round (sight_any t r b off cap _ _ hz _ OT.out O.out (by omega) (by omega) (by omega) (by omega) hbW HFW.out HF1.out (by omega) (by omega))).mono ?_; rintro e w' ⟨rfl, hb⟩; obtain ⟨pp, rfl⟩ := later_of_below hb; clear hb) | (refine wpListIn_load_row rfl 144 (.tmp 6) rfl _ rfl _ _ _ _ (H6.out _ (by (repeat' (first | with_reducible exact Below.refl _ _ | (with_reducible refine below_later_of ?_ ?_ _) | (with_reducible refine Below.alloc ?_ ?_ _) | (with_reducible refine Below.setCell ?_ ?_ _) | (with_reducible refine Below.drew ?_) | (simp; done) | (simp; omega) | omega)))) Try.underlying144 rfl viewInfo ?_) | (refine wpListIn_store_row rfl 144 (.tmp 4) (.tmp 38) rfl _ #[.int .i64 t.sx, .int .i64 t.sy, .int .i64 t.sz, .int .i64 t.step, .int .i64 t.lines, .int .i64 t.near, .int .i64 t.bin, .int .i64 t.bins, .bool t.east, .int .i64 r.x, .int .i64 r.y, .int .i64 r.cell, .int .i64 r.rows, .int .i64 r.cols, .slice (some ⟨b, off, none⟩) r.ds.length cap] rfl rfl _ _ (H4.out _ (by (repeat' (first | with_reducible exact Below.refl _ _ | (with_reducible refine below_later_of ?_ ?_ _) | (with_reducible refine Below.alloc ?_ ?_ _) | (with_reducible refine Below.setCell ?_ ?_ _) | (with_reducible refine Below.drew ?_) | (simp; done) | (simp; omega) | omega)))) viewInfo rfl (by simp [Value.oneCell']) ?_))
    have hX := (show Below W.heap.size W ((later W pp).alloc (.cells #[.int .i64 (offP t (pxP r j)), .int .i64 (depthP t hz)] 153)) from (by (repeat' (first | with_reducible exact Below.refl _ _ | (with_reducible refine below_later_of ?_ ?_ _) | (with_reducible refine Below.alloc ?_ ?_ _) | (with_reducible refine Below.setCell ?_ ?_ _) | (with_reducible refine Below.drew ?_) | (simp; done) | (simp; omega) | omega))))
    refine ⟨((KeepTop.below hX).setRow (by omega) _).setCell (p := ⟨w.heap.size + 1 + 1 + 1, 0, none⟩) (by simp only; omega) _, HST.out ho _ ⟨?_, ?_, ?_⟩⟩
    · exact (below_setRow (HVB.out.bel.trans (hX.mono hszb)) (by omega) _).setCell (p := ⟨w.heap.size + 1 + 1 + 1, 0, none⟩) (by simp only; omega) _
    · refine (Below.heap_setCell _ ⟨w.heap.size + 1 + 1 + 1, 0, none⟩ _ _ (by simp only; omega)).trans (setRow_heap _ _ _ _ _ _ ((hX.block _ (by omega)).trans HVB.out.h4))
    · exact heap_setCell_same _ _ _ _ _ _ ((setRow_other _ _ _ _ (by omega)).trans ((hX.block _ (by omega)).trans HVB.out.h5))
  · have hn : ¬ offP t (pxP r j) ≤ 0 := ho
    have ho' : 0 < offP t (pxP r j) := by omega
    have fin : ∀ (X : World) (v : Bool), Below W.heap.size W X → v = (d && decide (1 ≤ depthP t hz)) → KeepTop C W (X.setCell ⟨B8, 0, none⟩ (.bool v)) ∧ I (X.setCell ⟨B8, 0, none⟩ (.bool v)) := fun X v hX hv => by
      refine ⟨(KeepTop.below hX).setCell (by omega) _, HGO.out hn _ ⟨?_, ?_, ?_, ?_, ?_⟩ ?_⟩
      · exact (HVB.out.bel.trans (hX.mono hszb)).setCell (by simp only; omega) _
      · exact (Below.heap_setCell _ _ _ _ (by simp only; omega)).trans ((hX.block _ (by omega)).trans HVB.out.h4)
      · exact (Below.heap_setCell _ _ _ _ (by simp only; omega)).trans ((hX.block _ (by omega)).trans HVB.out.h5)
      · exact (Below.heap_setCell _ _ _ _ (by simp only; omega)).trans ((hX.block _ (by omega)).trans HVB.out.h6)
      · rw [← hv]; exact heap_setCell_same _ _ _ _ _ _ ((hX.block _ (by omega)).trans HVB.out.h8)
      · have := hX.size; simp [World.setCell]; omega
    have FIN := Lib.hid fin
    clear fin hn
    cases d
    · gi_wp2_with (first | (refine ⟨trivial, ?_⟩; gi_at_call 137; refine (callsIn_round (sight_any t r b off cap _ _ hz _ OT.out O.out (by omega) (by omega) (by omega) (by omega) hbW HFW.out HF1.out (by omega) (by omega))).mono ?_; rintro e w' ⟨rfl, hb⟩; obtain ⟨pp, rfl⟩ := later_of_below hb; clear hb) | (refine wpListIn_load_row rfl 144 (.tmp 6) rfl _ rfl _ _ _ _ (H6.out _ (by (repeat' (first | with_reducible exact Below.refl _ _ | (with_reducible refine below_later_of ?_ ?_ _) | (with_reducible refine Below.alloc ?_ ?_ _) | (with_reducible refine Below.setCell ?_ ?_ _) | (with_reducible refine Below.drew ?_) | (simp; done) | (simp; omega) | omega)))) Try.underlying144 rfl viewInfo ?_))
      exact FIN.out _ _ (by (repeat' (first | with_reducible exact Below.refl _ _ | (with_reducible refine below_later_of ?_ ?_ _) | (with_reducible refine Below.alloc ?_ ?_ _) | (with_reducible refine Below.setCell ?_ ?_ _) | (with_reducible refine Below.drew ?_) | (simp; done) | (simp; omega) | omega))) rfl
    · by_cases hd : 1 ≤ depthP t hz
      · have hd' : decide (1 ≤ depthP t hz) = true := by simpa using hd
        gi_wp2_with (first | (refine ⟨trivial, ?_⟩; gi_at_call 137; refine (callsIn_round (sight_any t r b off cap _ _ hz _ OT.out O.out (by omega) (by omega) (by omega) (by omega) hbW HFW.out HF1.out (by omega) (by omega))).mono ?_; rintro e w' ⟨rfl, hb⟩; obtain ⟨pp, rfl⟩ := later_of_below hb; clear hb) | (refine wpListIn_load_row rfl 144 (.tmp 6) rfl _ rfl _ _ _ _ (H6.out _ (by (repeat' (first | with_reducible exact Below.refl _ _ | (with_reducible refine below_later_of ?_ ?_ _) | (with_reducible refine Below.alloc ?_ ?_ _) | (with_reducible refine Below.setCell ?_ ?_ _) | (with_reducible refine Below.drew ?_) | (simp; done) | (simp; omega) | omega)))) Try.underlying144 rfl viewInfo ?_))
        exact FIN.out _ _ (by (repeat' (first | with_reducible exact Below.refl _ _ | (with_reducible refine below_later_of ?_ ?_ _) | (with_reducible refine Below.alloc ?_ ?_ _) | (with_reducible refine Below.setCell ?_ ?_ _) | (with_reducible refine Below.drew ?_) | (simp; done) | (simp; omega) | omega))) (by simp [hd])
      · have hd' : decide (1 ≤ depthP t hz) = false := by simpa using hd
        gi_wp2_with (first | (refine ⟨trivial, ?_⟩; gi_at_call 137; refine (callsIn_round (sight_any t r b off cap _ _ hz _ OT.out O.out (by omega) (by omega) (by omega) (by omega) hbW HFW.out HF1.out (by omega) (by omega))).mono ?_; rintro e w' ⟨rfl, hb⟩; obtain ⟨pp, rfl⟩ := later_of_below hb; clear hb) | (refine wpListIn_load_row rfl 144 (.tmp 6) rfl _ rfl _ _ _ _ (H6.out _ (by (repeat' (first | with_reducible exact Below.refl _ _ | (with_reducible refine below_later_of ?_ ?_ _) | (with_reducible refine Below.alloc ?_ ?_ _) | (with_reducible refine Below.setCell ?_ ?_ _) | (with_reducible refine Below.drew ?_) | (simp; done) | (simp; omega) | omega)))) Try.underlying144 rfl viewInfo ?_))
        exact FIN.out _ _ (by (repeat' (first | with_reducible exact Below.refl _ _ | (with_reducible refine below_later_of ?_ ?_ _) | (with_reducible refine Below.alloc ?_ ?_ _) | (with_reducible refine Below.setCell ?_ ?_ _) | (with_reducible refine Below.drew ?_) | (simp; done) | (simp; omega) | omega))) (by simp [hd])
end Go.Proofs.Ythnfepfbkmafaaa
