/- The sights of a row, and the kinds of its cells. -/
import Derived.Test.YthnfepfbkmafaaaK2
import Derived.Test.YthnfepfbkmafaaaK3
import Derived.Test.YthnfepfbkmafaaaG5
namespace Go.Proofs.Ythnfepfbkmafaaa
set_option linter.unusedVariables false
open Go.RowKit
def soP (t : Trk) (r : Rel) (col : Int) : Int := offP t (pxP r col)
def sdP (t : Trk) (r : Rel) (fi : Nat → Int) (row col : Int) : Int := depthP t (fi (bitAt r.ds (idxP r row col)))
/-- All floats of a relief are cut to integers that are no greater than a million. -/
def FlInts (fi : Nat → Int) (ds : List Nat) : Prop := ∀ k, k < ds.length → FlInt (bitAt ds k) (fi (bitAt ds k)) ∧ -1000000 ≤ fi (bitAt ds k) ∧ fi (bitAt ds k) ≤ 1000000
theorem so_bd {t : Trk} {r : Rel} (ot : t.Ok) (o : r.Ok) {col : Int} (b1 : 0 ≤ col) (b2 : col < r.cols) : Big4 (soP t r col) := by
  obtain ⟨u1, u2⟩ := cell_bd o b1 (show col ≤ 64 by have := o.l2; omega)
  have := o.x1; have := o.x2; have := o.c1; have := o.c2; have := ot.sx1; have := ot.sx2
  unfold soP offP pxP Big4
  split <;> omega
theorem sd_bd {t : Trk} {r : Rel} {fi : Nat → Int} (ot : t.Ok) (o : r.Ok) (hf : FlInts fi r.ds) {row col : Int} (a1 : 0 ≤ row) (a2 : row < r.rows) (b1 : 0 ≤ col) (b2 : col < r.cols) : Big4 (sdP t r fi row col) := by
  obtain ⟨_, _, _, hlt⟩ := idx_lt o a1 a2 b1 b2
  obtain ⟨_, h1, h2⟩ := hf _ hlt
  have := ot.sz1; have := ot.sz2
  unfold sdP depthP Big4
  omega
def sightsUpto (t : Trk) (r : Rel) (fi : Nat → Int) (row : Int) : Nat → List Value
  | 0 => []
  | k + 1 => sightsUpto t r fi row k ++ [.int .i64 (soP t r k), .int .i64 (sdP t r fi row k)]
theorem sightsUpto_len (t : Trk) (r : Rel) (fi : Nat → Int) (row : Int) : ∀ n, (sightsUpto t r fi row n).length = n * 2
  | 0 => rfl
  | n + 1 => by unfold sightsUpto; rw [List.length_append, sightsUpto_len t r fi row n]; simp; omega
theorem sightsUpto_at (t : Trk) (r : Rel) (fi : Nat → Int) (row : Int) (k : Nat) (j : Nat) (hj : j < 2) : ∀ n, k < n → (sightsUpto t r fi row n)[k * 2 + j]? = [Value.int .i64 (soP t r k), .int .i64 (sdP t r fi row k)][j]?
  | 0, h => by omega
  | n + 1, h => by
    unfold sightsUpto
    have hl := sightsUpto_len t r fi row n
    by_cases e : k = n
    · subst e
      rw [List.getElem?_append_right (by omega), hl, show k * 2 + j - k * 2 = j by omega]
    · rw [List.getElem?_append_left (by omega)]
      exact sightsUpto_at t r fi row k j hj n (by omega)
theorem info153 : (Try.prog.info? 153).map (fun i => (i.zero, i.size, i.bytes)) = some (some (.agg #[.int .i64 0, .int .i64 0]), 2, 16) := by kernel_rfl
/-- Block B holds a view. -/
def ViewAt (w : World) (B : Nat) (t : Trk) (r : Rel) (b off cap : Nat) : Prop := w.cell? ⟨B, 0, none⟩ = some (.int .i64 t.sx) ∧ w.cell? ⟨B, 1, none⟩ = some (.int .i64 t.sy) ∧ w.cell? ⟨B, 2, none⟩ = some (.int .i64 t.sz) ∧ w.cell? ⟨B, 3, none⟩ = some (.int .i64 t.step) ∧ w.cell? ⟨B, 4, none⟩ = some (.int .i64 t.lines) ∧ w.cell? ⟨B, 5, none⟩ = some (.int .i64 t.near) ∧ w.cell? ⟨B, 6, none⟩ = some (.int .i64 t.bin) ∧ w.cell? ⟨B, 7, none⟩ = some (.int .i64 t.bins) ∧ w.cell? ⟨B, 8, none⟩ = some (.bool t.east) ∧ w.cell? ⟨B, 9, none⟩ = some (.int .i64 r.x) ∧ w.cell? ⟨B, 10, none⟩ = some (.int .i64 r.y) ∧ w.cell? ⟨B, 11, none⟩ = some (.int .i64 r.cell) ∧ w.cell? ⟨B, 12, none⟩ = some (.int .i64 r.rows) ∧ w.cell? ⟨B, 13, none⟩ = some (.int .i64 r.cols) ∧ w.cell? ⟨B, 14, none⟩ = some (.slice (some ⟨b, off, none⟩) r.ds.length cap)
theorem viewAt_alloc (w : World) (t : Trk) (r : Rel) (b off cap : Nat) (T : TypeId) : ViewAt (w.alloc (.cells #[.int .i64 t.sx, .int .i64 t.sy, .int .i64 t.sz, .int .i64 t.step, .int .i64 t.lines, .int .i64 t.near, .int .i64 t.bin, .int .i64 t.bins, .bool t.east, .int .i64 r.x, .int .i64 r.y, .int .i64 r.cell, .int .i64 r.rows, .int .i64 r.cols, .slice (some ⟨b, off, none⟩) r.ds.length cap] T)) w.heap.size t r b off cap :=
  ⟨World.cell?_alloc_new _ _ _ _, World.cell?_alloc_new _ _ _ _, World.cell?_alloc_new _ _ _ _, World.cell?_alloc_new _ _ _ _, World.cell?_alloc_new _ _ _ _, World.cell?_alloc_new _ _ _ _, World.cell?_alloc_new _ _ _ _, World.cell?_alloc_new _ _ _ _, World.cell?_alloc_new _ _ _ _, World.cell?_alloc_new _ _ _ _, World.cell?_alloc_new _ _ _ _, World.cell?_alloc_new _ _ _ _, World.cell?_alloc_new _ _ _ _, World.cell?_alloc_new _ _ _ _, World.cell?_alloc_new _ _ _ _⟩
theorem ViewAt.below {w w' : World} {B C : Nat} {t : Trk} {r : Rel} {b off cap : Nat} (h : ViewAt w B t r b off cap) (hB : B < C) (hw : Below C w w') : ViewAt w' B t r b off cap := by
  obtain ⟨h0, h1, h2, h3, h4, h5, h6, h7, h8, h9, h10, h11, h12, h13, h14⟩ := h
  exact ⟨(hw.cell hB).trans h0, (hw.cell hB).trans h1, (hw.cell hB).trans h2, (hw.cell hB).trans h3, (hw.cell hB).trans h4, (hw.cell hB).trans h5, (hw.cell hB).trans h6, (hw.cell hB).trans h7, (hw.cell hB).trans h8, (hw.cell hB).trans h9, (hw.cell hB).trans h10, (hw.cell hB).trans h11, (hw.cell hB).trans h12, (hw.cell hB).trans h13, (hw.cell hB).trans h14⟩
theorem cells_new (w : World) (l : List Value) (T : TypeId) (j : Nat) (u : Value) (h : l[j]? = some u) : (w.alloc (.cells l.toArray T)).cell? ((⟨w.heap.size, 0, none⟩ : Addr).add j) = some u := by
  have : (⟨w.heap.size, 0, none⟩ : Addr).add j = ⟨w.heap.size, j, none⟩ := by simp [Addr.add]; omega
  rw [this, World.cell?_alloc_new]
  simpa using h
theorem ownsRow_later {w : World} {base e size n : Nat} {v : Value} {xs : List Value} (h : w.ownsRow base e size v n xs) (p : Regrown) : (later w p).ownsRow base e size v n xs := by
  obtain ⟨h1, h2 | ⟨g, cap, cur, h3, h4, h5, h6⟩⟩ := h
  · exact ⟨h1, Or.inl h2⟩
  · exact ⟨h1, Or.inr ⟨g, cap, cur, h3, h4, ((below_later w p).block g (Array.getElem?_eq_some_iff.1 h5).1).trans h5, h6⟩⟩
theorem ownsRow_mono {w : World} {base base' e size n : Nat} {v : Value} {xs : List Value} (h : w.ownsRow base e size v n xs) (hb : base' ≤ base) : w.ownsRow base' e size v n xs := by
  obtain ⟨h1, h2 | ⟨g, cap, cur, h3, h4, h5⟩⟩ := h
  · exact ⟨h1, Or.inl h2⟩
  · exact ⟨h1, Or.inr ⟨g, cap, cur, h3, Nat.le_trans hb h4, h5⟩⟩
set_option maxRecDepth 20000 in
set_option maxHeartbeats 1000000 in
theorem row_any (t : Trk) (r : Rel) (fi : Nat → Int) (b off cap : Nat) (row : Int) (w : World) (ot : t.Ok) (o : r.Ok) (hf : FlInts fi r.ds) (a1 : 0 ≤ row) (a2 : row < r.rows)
    (hbw : b < w.heap.size) (hc : FloatsAt w b off r.ds) :
    Calls Try.prog 99 #[.agg #[.int .i64 t.sx, .int .i64 t.sy, .int .i64 t.sz, .int .i64 t.step, .int .i64 t.lines, .int .i64 t.near, .int .i64 t.bin, .int .i64 t.bins, .bool t.east, .int .i64 r.x, .int .i64 r.y, .int .i64 r.cell, .int .i64 r.rows, .int .i64 r.cols, .slice (some ⟨b, off, none⟩) r.ds.length cap], .int .i64 row] w
      fun e w' => ∃ v, e = .returned v ∧ w'.ownsRow w.heap.size 153 2 v r.cols.toNat (sightsUpto t r fi row r.cols.toNat) ∧ Below w.heap.size w w' := by
  obtain ⟨i0, hi, hz0, hz1, hz2⟩ := info_parts info153
  have OT := Lib.hid ot
  have O := Lib.hid o
  have HFI := Lib.hid hf
  have HFC := Lib.hid hc
  obtain ⟨-, -, -, -, -, -, r1, r2, l1, l2, -⟩ := o
  clear ot hf hc
  go_enter Try.func99, Try.ntmps99
  go_wp2
  obtain ⟨W2, hW2, hV2, hB2, hs2⟩ : ∃ W2, w.alloc (.cells #[.int .i64 t.sx, .int .i64 t.sy, .int .i64 t.sz, .int .i64 t.step, .int .i64 t.lines, .int .i64 t.near, .int .i64 t.bin, .int .i64 t.bins, .bool t.east, .int .i64 r.x, .int .i64 r.y, .int .i64 r.cell, .int .i64 r.rows, .int .i64 r.cols, .slice (some ⟨b, off, none⟩) r.ds.length cap] 144) = W2 ∧ ViewAt W2 w.heap.size t r b off cap ∧ Below w.heap.size w W2 ∧ W2.heap.size = w.heap.size + 1 :=
    ⟨_, rfl, viewAt_alloc _ _ _ _ _ _ _, (Below.refl _ _).alloc (Nat.le_refl _) _, by simp⟩
  rw [hW2]
  have HB2 := Lib.hid hB2
  have HS2 := Lib.hid hs2
  have HV2 := Lib.hid hV2
  have hlt2 : w.heap.size < W2.heap.size := by omega
  clear hW2 hB2 hs2 hV2
  go_loopw [5, 12] (fun v i wr => ∃ k : Nat, (k : Int) ≤ r.cols ∧ i = .int .i64 k ∧ wr.ownsRow W2.heap.size 153 2 v k (sightsUpto t r fi row k) ∧ Below W2.heap.size W2 wr)
    (fun _ i _ => r.cols.toNat - (intOf i).toNat)
  case atStart => exact ⟨0, by omega, rfl, World.ownsRow_nil _ _ _ _, Below.refl _ _⟩
  case round =>
    obtain ⟨k, hk, rfl, hown, hnx⟩ := hrel
    have HX := Lib.hid hnx
    have HO := Lib.hid hown
    have hsz := hnx.size
    by_cases hlt : (k : Int) < r.cols
    · obtain ⟨c0, c1, c2, c3, c4, c5, c6, c7, c8, c9, c10, c11, c12, c13, c14⟩ := HV2.out.below hlt2 hnx
      obtain ⟨_, _, _, hil⟩ := idx_lt O.out a1 a2 (show (0 : Int) ≤ k by omega) hlt
      obtain ⟨hi1, hi2, hi3⟩ := HFI.out _ hil
      have HI := Lib.hid hi1
      have HFW := Lib.hid (HFC.out.below hbw (HB2.out.trans (hnx.mono (by omega))))
      have HSN := Lib.hid (show sightsUpto t r fi row (k + 1) = sightsUpto t r fi row k ++ [.int .i64 (offP t (pxP r k)), .int .i64 (depthP t (fi (bitAt r.ds (idxP r row k))))] from rfl)
      have hbr : b < wr.heap.size := by omega
      clear hnx hown hi1
      go_wp2_with (first | (go_at_call 137; refine (sight_any t r b off cap _ _ (fi (bitAt r.ds (idxP r row k))) _ OT.out O.out (by omega) (by omega) (by omega) (by omega) hbr HFW.out HI.out (by omega) (by omega)).mono ?_; rintro e w' ⟨rfl, hb⟩; obtain ⟨pp, rfl⟩ := later_of_below hb; clear hb) | (at_builtin; refine wpList_append_own _ rfl _ _ 150 rfl W2.heap.size 153 i0 (.agg #[.int .i64 0, .int .i64 0]) 2 16 Try.underlying150 hi hz0 hz1 hz2 rfl (by decide) _ _ _ rfl ((ownsRow_later HO.out _).alloc _) ⟨(later wr pp).heap.size, 0, none⟩ 1 1 [.int .i64 (offP t (pxP r k)), .int .i64 (depthP t (fi (bitAt r.ds (idxP r row k))))] (by simp; rfl) rfl ?c1 ?c2 ?c3 ?c4 ?c5 ?_))
      case c1 => exact cells_new _ [_, _] _
      case c2 => intro u hu; simp at hu; rcases hu with rfl | rfl <;> rfl
      case c3 => unfold maxLen; omega
      case c4 => omega
      case c5 => simp; omega
      intro v' w1 hown' hgrow _
      have HX1 := Lib.hid (show Below W2.heap.size W2 w1 from (HX.out.trans (show Below W2.heap.size wr _ from below_mono_of hsz (by (repeat' (first | with_reducible exact Below.refl _ _ | (with_reducible refine below_later_of ?_ ?_ _) | (with_reducible refine Below.alloc ?_ ?_ _) | (with_reducible refine Below.setCell ?_ ?_ _) | (with_reducible refine Below.drew ?_) | (simp; done) | (simp; omega) | omega))))).grown hgrow (by simp; omega) (fun g hg => (HO.out.lt g hg).1))
      have HO1 := Lib.hid hown'
      clear hown' hgrow
      go_wp2
      go_roundw
      case rel => exact ⟨k + 1, by omega, by go_num, by rw [HSN.out]; exact HO1.out, HX1.out⟩
      case measure => simp [intOf]; omega
    · obtain ⟨n, hn⟩ : ∃ n : Nat, r.cols = n := ⟨r.cols.toNat, by omega⟩
      have hkn : r.cols.toNat = k := by omega
      have HKN := Lib.hid hkn
      have hge : r.cols ≤ k := by omega
      clear hn hkn
      go_wp2
      go_ret
      rw [HKN.out]
      exact ⟨_, rfl, ownsRow_mono HO.out (by omega), HB2.out.trans (HX.out.mono (by omega))⟩
/-- Block g holds the sights of a row. -/
def SightsAt (w : World) (g : Nat) (t : Trk) (r : Rel) (fi : Nat → Int) (row : Int) (n : Nat) : Prop :=
  ∀ k : Nat, k < n → w.cell? ⟨g, k * 2, none⟩ = some (.int .i64 (soP t r k)) ∧ w.cell? ⟨g, k * 2 + 1, none⟩ = some (.int .i64 (sdP t r fi row k))
theorem SightsAt.below {w w' : World} {g B n : Nat} {t : Trk} {r : Rel} {fi : Nat → Int} {row : Int} (h : SightsAt w g t r fi row n) (hb : g < B) (hw : Below B w w') : SightsAt w' g t r fi row n := fun k hk =>
  ⟨(hw.cell (p := ⟨g, k * 2, none⟩) hb).trans (h k hk).1, (hw.cell (p := ⟨g, k * 2 + 1, none⟩) hb).trans (h k hk).2⟩
theorem row_sights (t : Trk) (r : Rel) (fi : Nat → Int) (b off cap : Nat) (row : Int) (w : World) (ot : t.Ok) (o : r.Ok) (hf : FlInts fi r.ds) (a1 : 0 ≤ row) (a2 : row < r.rows)
    (hbw : b < w.heap.size) (hc : FloatsAt w b off r.ds) :
    Calls Try.prog 99 #[.agg #[.int .i64 t.sx, .int .i64 t.sy, .int .i64 t.sz, .int .i64 t.step, .int .i64 t.lines, .int .i64 t.near, .int .i64 t.bin, .int .i64 t.bins, .bool t.east, .int .i64 r.x, .int .i64 r.y, .int .i64 r.cell, .int .i64 r.rows, .int .i64 r.cols, .slice (some ⟨b, off, none⟩) r.ds.length cap], .int .i64 row] w
      fun e w' => ∃ g c, e = .returned (.slice (some ⟨g, 0, none⟩) r.cols.toNat c) ∧ w.heap.size ≤ g ∧ g < w'.heap.size ∧ SightsAt w' g t r fi row r.cols.toNat ∧ Below w.heap.size w w' :=
  (row_any t r fi b off cap row w ot o hf a1 a2 hbw hc).mono fun e w' ⟨v, he, ho, hb⟩ => by
    obtain ⟨g, c, rfl, h1, h2, h3, h4⟩ := ownsRow_slice ho (by have := o.l1; omega)
    refine ⟨g, c, he, h1, h2, fun k hk => ?_, hb⟩
    have a0 := (ho.cellAt (k * 2) (by omega)).trans (sightsUpto_at t r fi row k 0 (by omega) _ hk)
    have a1 := (ho.cellAt (k * 2 + 1) (by omega)).trans (sightsUpto_at t r fi row k 1 (by omega) _ hk)
    exact ⟨a0, a1⟩
end Go.Proofs.Ythnfepfbkmafaaa
