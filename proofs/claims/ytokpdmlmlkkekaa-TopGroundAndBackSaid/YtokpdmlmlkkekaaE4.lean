/- The law TopGroundAndBack returns true. -/
import Derived.Test.YtokpdmlmlkkekaaE3
import Derived.Test.YtokpdmlmlkkekaaS5
import Derived.Test.YtokpdmlmlkkekaaQ6
import Derived.Test.YtokpdmlmlkkekaaB1
import Derived.Test.YtokpdmlmlkkekaaM2
import Derived.Deep.CutRange
import Derived.Deep.RegionHeld3
namespace Go.Proofs.Ytokpdmlmlkkekaa
set_option linter.unusedVariables false
open Go.RowKit
theorem wp_worldE {P : Program} {c : Code} {Q : Exit → Act → World → Prop} {a : Act} {w : World} (F : World → Prop) (hf : F w) (h : ∀ W, F W → Code.wp P c Q a W) : Code.wp P c Q a w := h w hf
/-- Block B holds four numbers, of which the last two may be written. -/
def QuadAt (W : World) (B : Nat) (a b c d : Int) : Prop := W.cell? ⟨B, 0, none⟩ = some (.int .i64 a) ∧ W.cell? ⟨B, 1, none⟩ = some (.int .i64 b) ∧ W.cell? ⟨B, 2, none⟩ = some (.int .i64 c) ∧ W.cell? ⟨B, 3, none⟩ = some (.int .i64 d) ∧ W.frozen? ⟨B, 2, none⟩ = false ∧ W.frozen? ⟨B, 3, none⟩ = false
theorem QuadAt.below {w w' : World} {B C : Nat} {a b c d : Int} (h : QuadAt w B a b c d) (hB : B < C) (hw : Below C w w') : QuadAt w' B a b c d :=
  ⟨(hw.cell hB).trans h.1, (hw.cell hB).trans h.2.1, (hw.cell hB).trans h.2.2.1, (hw.cell hB).trans h.2.2.2.1, (hw.frozen hB).trans h.2.2.2.2.1, (hw.frozen hB).trans h.2.2.2.2.2⟩
theorem pairs_later {W W' : World} {g N : Nat} {Z : Nat → Int} (h : ∀ j, j < N → W.cell? ⟨g, j * 2, none⟩ = some (.int .i64 (Z (j * 2))) ∧ W.cell? ⟨g, j * 2 + 1, none⟩ = some (.int .i64 (Z (j * 2 + 1)))) (hg : g < W.heap.size) (hb : Below W.heap.size W W') :
    ∀ j, j < N → W'.cell? ⟨g, j * 2, none⟩ = some (.int .i64 (Z (j * 2))) ∧ W'.cell? ⟨g, j * 2 + 1, none⟩ = some (.int .i64 (Z (j * 2 + 1))) :=
  fun j hj => ⟨(hb.cell (p := ⟨g, j * 2, none⟩) hg).trans (h j hj).1, (hb.cell (p := ⟨g, j * 2 + 1, none⟩) hg).trans (h j hj).2⟩
set_option maxRecDepth 20000 in
set_option maxHeartbeats 1000000 in
theorem gab_many (t : Trk) (r : Rel) (a : Option Addr) (cap : Nat) (w : World) (hl : ¬ r.ds.length ≤ 40) :
    Calls Try.prog 16 #[.agg #[.int .i64 t.sx, .int .i64 t.sy, .int .i64 t.sz, .int .i64 t.step, .int .i64 t.lines, .int .i64 t.near, .int .i64 t.bin, .int .i64 t.bins, .bool t.east], .agg #[.int .i64 r.x, .int .i64 r.y, .int .i64 r.cell, .int .i64 r.rows, .int .i64 r.cols, .slice a r.ds.length cap]] w fun e w' => e = .returned (.bool true) ∧ Below w.heap.size w w' := by
  have hd : decide ((40 : Int) < (r.ds.length : Int)) = true := by simp; omega
  clear hl
  go_enter Try.func16, Try.ntmps16
  go_wp2_with (first | (go_at_call 72; refine (grounded_any _).mono ?_; rintro e w' ⟨rfl, hb⟩; obtain ⟨p1, rfl⟩ := later_of_below hb; clear hb))
  go_ret
  exact ⟨rfl, (by (repeat' (first | with_reducible exact Below.refl _ _ | (with_reducible refine below_later_of ?_ ?_ _) | (with_reducible refine Below.alloc ?_ ?_ _) | (with_reducible refine Below.setCell ?_ ?_ _) | (with_reducible refine Below.drew ?_) | (simp; done) | (simp; omega) | omega)))⟩
set_option maxRecDepth 20000 in
set_option maxHeartbeats 1000000 in
theorem gab_bad (t : Trk) (r : Rel) (b off cap : Nat) (w : World) (hl : r.ds.length ≤ 40) (hbw : b < w.heap.size) (hc : FloatsAt w b off r.ds) (he : viewErrP feB intB t r ≠ 0) :
    Calls Try.prog 16 #[.agg #[.int .i64 t.sx, .int .i64 t.sy, .int .i64 t.sz, .int .i64 t.step, .int .i64 t.lines, .int .i64 t.near, .int .i64 t.bin, .int .i64 t.bins, .bool t.east], .agg #[.int .i64 r.x, .int .i64 r.y, .int .i64 r.cell, .int .i64 r.rows, .int .i64 r.cols, .slice (some ⟨b, off, none⟩) r.ds.length cap]] w fun e w' => e = .returned (.bool true) ∧ Below w.heap.size w w' := by
  have hd : decide ((40 : Int) < (r.ds.length : Int)) = false := by simp; omega
  have HFC := Lib.hid hc
  have HS := Lib.hid (show SrcAt w (some ⟨b, off, none⟩) r.ds from fun _ => ⟨b, off, rfl, hbw, hc⟩)
  clear hc
  by_cases ht : checkTrackP t = 0
  · by_cases hr : relErrP feB r = 0
    · obtain ⟨e0, hv⟩ : ∃ e0, viewErrP feB intB t r = e0 := ⟨_, rfl⟩
      rw [hv] at he
      have hne : (e0 != 0) = true := by simpa using he
      have HE := Lib.hid hv
      have HT := Lib.hid ht
      have HCK := Lib.hid hr
      have HFI := Lib.hid (flInts_any hr)
      clear ht hr hv he
      go_enter Try.func16, Try.ntmps16
      go_wp2_with (first | (go_at_call 72; refine (grounded_any _).mono ?_; rintro e w' ⟨rfl, hb⟩; obtain ⟨p1, rfl⟩ := later_of_below hb; clear hb) | (go_at_call 20; refine (rCheckTrack t _ HT.out).mono ?_; rintro e w' ⟨rfl, hb⟩; obtain ⟨p2, rfl⟩ := later_of_below hb; clear hb) | (go_at_call 43; refine (rCheckRelief_e r _ cap _ HCK.out (by omega) (HS.out.below (by (repeat' (first | with_reducible exact Below.refl _ _ | (with_reducible refine below_later_of ?_ ?_ _) | (with_reducible refine Below.alloc ?_ ?_ _) | (with_reducible refine Below.setCell ?_ ?_ _) | (with_reducible refine Below.drew ?_) | (simp; done) | (simp; omega) | omega))))).mono ?_; rintro e w' ⟨rfl, hb⟩; obtain ⟨p3, rfl⟩ := later_of_below hb; clear hb) | (go_at_call 73; refine (rViewErr feB t r intB b off cap _ HT.out HCK.out HFI.out (by simp; omega) (HFC.out.below hbw (by (repeat' (first | with_reducible exact Below.refl _ _ | (with_reducible refine below_later_of ?_ ?_ _) | (with_reducible refine Below.alloc ?_ ?_ _) | (with_reducible refine Below.setCell ?_ ?_ _) | (with_reducible refine Below.drew ?_) | (simp; done) | (simp; omega) | omega)))) HE.out).mono ?_; rintro e w' ⟨rfl, hb⟩; obtain ⟨p4, rfl⟩ := later_of_below hb; clear hb))
      go_ret
      exact ⟨rfl, (by (repeat' (first | with_reducible exact Below.refl _ _ | (with_reducible refine below_later_of ?_ ?_ _) | (with_reducible refine Below.alloc ?_ ?_ _) | (with_reducible refine Below.setCell ?_ ?_ _) | (with_reducible refine Below.drew ?_) | (simp; done) | (simp; omega) | omega)))⟩
    · obtain ⟨e0, hv⟩ : ∃ e0, relErrP feB r = e0 := ⟨_, rfl⟩
      rw [hv] at hr
      have hne : (e0 != 0) = true := by simpa using hr
      have HT := Lib.hid ht
      have HCK := Lib.hid hv
      clear ht hr hv he
      go_enter Try.func16, Try.ntmps16
      go_wp2_with (first | (go_at_call 72; refine (grounded_any _).mono ?_; rintro e w' ⟨rfl, hb⟩; obtain ⟨p1, rfl⟩ := later_of_below hb; clear hb) | (go_at_call 20; refine (rCheckTrack t _ HT.out).mono ?_; rintro e w' ⟨rfl, hb⟩; obtain ⟨p2, rfl⟩ := later_of_below hb; clear hb) | (go_at_call 43; refine (rCheckRelief_e r _ cap _ HCK.out (by omega) (HS.out.below (by (repeat' (first | with_reducible exact Below.refl _ _ | (with_reducible refine below_later_of ?_ ?_ _) | (with_reducible refine Below.alloc ?_ ?_ _) | (with_reducible refine Below.setCell ?_ ?_ _) | (with_reducible refine Below.drew ?_) | (simp; done) | (simp; omega) | omega))))).mono ?_; rintro e w' ⟨rfl, hb⟩; obtain ⟨p3, rfl⟩ := later_of_below hb; clear hb))
      go_ret
      exact ⟨rfl, (by (repeat' (first | with_reducible exact Below.refl _ _ | (with_reducible refine below_later_of ?_ ?_ _) | (with_reducible refine Below.alloc ?_ ?_ _) | (with_reducible refine Below.setCell ?_ ?_ _) | (with_reducible refine Below.drew ?_) | (simp; done) | (simp; omega) | omega)))⟩
  · obtain ⟨e0, hv⟩ : ∃ e0, checkTrackP t = e0 := ⟨_, rfl⟩
    rw [hv] at ht
    have hne : (e0 != 0) = true := by simpa using ht
    have HT := Lib.hid hv
    clear ht hv he
    go_enter Try.func16, Try.ntmps16
    go_wp2_with (first | (go_at_call 72; refine (grounded_any _).mono ?_; rintro e w' ⟨rfl, hb⟩; obtain ⟨p1, rfl⟩ := later_of_below hb; clear hb) | (go_at_call 20; refine (rCheckTrack t _ HT.out).mono ?_; rintro e w' ⟨rfl, hb⟩; obtain ⟨p2, rfl⟩ := later_of_below hb; clear hb))
    go_ret
    exact ⟨rfl, (by (repeat' (first | with_reducible exact Below.refl _ _ | (with_reducible refine below_later_of ?_ ?_ _) | (with_reducible refine Below.alloc ?_ ?_ _) | (with_reducible refine Below.setCell ?_ ?_ _) | (with_reducible refine Below.drew ?_) | (simp; done) | (simp; omega) | omega)))⟩
theorem boxOf_x (t : Trk) (a b lo hi : Int) (w : World) {x1 x2 y1 y2 e0 : Int} (h : boxOfP t ⟨a, b, lo, hi⟩ = ⟨x1, x2, y1, y2, e0⟩) :
    Calls Try.prog 19 #[.agg #[.int .i64 t.sx, .int .i64 t.sy, .int .i64 t.sz, .int .i64 t.step, .int .i64 t.lines, .int .i64 t.near, .int .i64 t.bin, .int .i64 t.bins, .bool t.east], .agg #[.int .i64 a, .int .i64 b, .int .i64 lo, .int .i64 hi]] w fun e w' => e = .returned (.tuple #[.agg #[.int .i64 x1, .int .i64 x2, .int .i64 y1, .int .i64 y2], .int .i64 e0]) ∧ Below w.heap.size w w' := boxOf_e t ⟨a, b, lo, hi⟩ w h
theorem inPixel_x (t : Trk) (a b lo hi x1 x2 y1 y2 : Int) (w : World) (ht : checkTrackP t = 0) (hp : checkPixelP t ⟨a, b, lo, hi⟩ = 0) (hb : boxErrP ⟨x1, x2, y1, y2⟩ = 0) {n : Int} (hn : inPixelP t ⟨a, b, lo, hi⟩ ⟨x1, x2, y1, y2⟩ = n) :
    Calls Try.prog 66 #[.agg #[.int .i64 t.sx, .int .i64 t.sy, .int .i64 t.sz, .int .i64 t.step, .int .i64 t.lines, .int .i64 t.near, .int .i64 t.bin, .int .i64 t.bins, .bool t.east], .agg #[.int .i64 a, .int .i64 b, .int .i64 lo, .int .i64 hi], .agg #[.int .i64 x1, .int .i64 x2, .int .i64 y1, .int .i64 y2]] w fun e w' => e = .returned (.tuple #[.int .i64 n, .int .i64 0]) ∧ Below w.heap.size w w' := inPixel_e t ⟨a, b, lo, hi⟩ ⟨x1, x2, y1, y2⟩ w ht hp hb hn
set_option maxRecDepth 20000 in
set_option maxHeartbeats 8000000 in
theorem gab_ok (t : Trk) (r : Rel) (b off cap : Nat) (w : World) (hl : r.ds.length ≤ 40) (hbw : b < w.heap.size) (hc : FloatsAt w b off r.ds) (he : viewErrP feB intB t r = 0) :
    Calls Try.prog 16 #[.agg #[.int .i64 t.sx, .int .i64 t.sy, .int .i64 t.sz, .int .i64 t.step, .int .i64 t.lines, .int .i64 t.near, .int .i64 t.bin, .int .i64 t.bins, .bool t.east], .agg #[.int .i64 r.x, .int .i64 r.y, .int .i64 r.cell, .int .i64 r.rows, .int .i64 r.cols, .slice (some ⟨b, off, none⟩) r.ds.length cap]] w fun e w' => e = .returned (.bool true) ∧ Below w.heap.size w w' := by
  have hd : decide ((40 : Int) < (r.ds.length : Int)) = false := by simp; omega
  obtain ⟨h1, h2, h3, h4⟩ := viewErrP_ok he
  have hf := flInts_any h2
  have o := (relErrP_ok h2).1
  have hpos := rel_pos h2
  obtain ⟨nr, hnr⟩ : ∃ nr : Nat, r.rows = nr := ⟨r.rows.toNat, by have := o.r1; omega⟩
  obtain ⟨nc, hnc⟩ : ∃ nc : Nat, r.cols = nc := ⟨r.cols.toNat, by have := o.l1; omega⟩
  have HS := Lib.hid (show SrcAt w (some ⟨b, off, none⟩) r.ds from fun _ => ⟨b, off, rfl, hbw, hc⟩)
  have HN := Lib.hid (show (some (⟨b, off, none⟩ : Addr)) = none → cap = 0 from fun h => by cases h)
  have HFI := Lib.hid hf
  have HFC := Lib.hid hc
  have HT := Lib.hid h1
  have HCK := Lib.hid h2
  have HE := Lib.hid he
  have O := Lib.hid o
  have b1 : (nr : Int) ≤ r.rows := by omega
  have b2 : r.rows ≤ (nr : Int) := by omega
  have b5 : (nc : Int) ≤ r.cols := by omega
  have b6 : r.cols ≤ (nc : Int) := by omega
  have b3 : nr ≤ 64 := by have := o.r2; omega
  have b4 : nc ≤ 64 := by have := o.l2; omega
  have HPT0 := Lib.hid (show ∀ (n k : Nat) (w1 w2 : World), n < nr → k < nc → Below w.heap.size w w1 → Below w1.heap.size w1 w2 → Calls Try.prog 75 #[.agg #[.int .i64 r.x, .int .i64 r.y, .int .i64 r.cell, .int .i64 r.rows, .int .i64 r.cols, .slice (some ⟨b, off, none⟩) r.ds.length cap], .int .i64 (n : Int), .int .i64 (k : Int)] w2 fun e w' => e = .returned (.agg #[.int .i64 (pxP r k), .int .i64 (pyP r n), .int .i64 (intB (bitAt r.ds (idxP r n k)))]) ∧ Below w2.heap.size w2 w' from fun n k w1 w2 hn hk hb1 hb2 => by
    obtain ⟨_, _, _, hil⟩ := idx_lt o (Int.natCast_nonneg n) (show (n : Int) < r.rows by omega) (Int.natCast_nonneg k) (show (k : Int) < r.cols by omega)
    exact rPoint r b off cap n k _ w2 o (Int.natCast_nonneg n) (by omega) (Int.natCast_nonneg k) (by omega) (Nat.lt_of_lt_of_le hbw (Nat.le_trans hb1.size hb2.size)) ((hc.below hbw hb1).below (Nat.lt_of_lt_of_le hbw hb1.size) hb2) (hf _ hil).1)
  have HCF := Lib.hid (show ∀ (n k : Nat), n < nr → k < nc → ∀ x y z : Int, pxP r k = x → pyP r n = y → intB (bitAt r.ds (idxP r n k)) = z → placeB x y z = true → ∃ a b e, CellFacts t r n k x y z a b e from fun n k hn hk x y z hx hy hz hp => cellFacts he (by omega) (by omega) hx hy hz hp)
  have HFW := Lib.hid (show ∀ u v : Int, plN t r 0 u v ≤ 40 from fun u v => by unfold plN; rw [if_pos rfl]; exact cnGrid_few o hl)
  clear hf hc h1 h2 h3 h4 he hnr hnc o
  go_enter Try.func16, Try.ntmps16
  go_wp2_with (first | (go_at_call 72; refine (grounded_any _).mono ?_; rintro e w' ⟨rfl, hb⟩; obtain ⟨p1, rfl⟩ := later_of_below hb; clear hb) | (go_at_call 20; refine (rCheckTrack t _ HT.out).mono ?_; rintro e w' ⟨rfl, hb⟩; obtain ⟨p2, rfl⟩ := later_of_below hb; clear hb) | (go_at_call 43; refine (rCheckRelief_e r _ cap _ HCK.out (by omega) (HS.out.below (by (repeat' (first | with_reducible exact Below.refl _ _ | (with_reducible refine below_later_of ?_ ?_ _) | (with_reducible refine Below.alloc ?_ ?_ _) | (with_reducible refine Below.setCell ?_ ?_ _) | (with_reducible refine Below.drew ?_) | (simp; done) | (simp; omega) | omega))))).mono ?_; rintro e w' ⟨rfl, hb⟩; obtain ⟨p3, rfl⟩ := later_of_below hb; clear hb) | (go_at_call 73; refine (rViewErr feB t r intB b off cap _ HT.out HCK.out HFI.out (by simp; omega) (HFC.out.below hbw (by (repeat' (first | with_reducible exact Below.refl _ _ | (with_reducible refine below_later_of ?_ ?_ _) | (with_reducible refine Below.alloc ?_ ?_ _) | (with_reducible refine Below.setCell ?_ ?_ _) | (with_reducible refine Below.drew ?_) | (simp; done) | (simp; omega) | omega)))) HE.out).mono ?_; rintro e w' ⟨rfl, hb⟩; obtain ⟨p4, rfl⟩ := later_of_below hb; clear hb) | (go_at_call 74; refine (heights_any r b off cap _ (by omega) (by omega) HFI.out (by simp; omega) (HFC.out.below hbw (by (repeat' (first | with_reducible exact Below.refl _ _ | (with_reducible refine below_later_of ?_ ?_ _) | (with_reducible refine Below.alloc ?_ ?_ _) | (with_reducible refine Below.setCell ?_ ?_ _) | (with_reducible refine Below.drew ?_) | (simp; done) | (simp; omega) | omega))))).mono ?_; rintro e w' ⟨rfl, hb⟩; obtain ⟨p5, rfl⟩ := later_of_below hb; clear hb))
  obtain ⟨lo, hlo⟩ : ∃ lo, (hiLo r r.ds.length).1 = lo := ⟨_, rfl⟩
  obtain ⟨hi, hhi⟩ : ∃ hi, (hiLo r r.ds.length).2 = hi := ⟨_, rfl⟩
  rw [hlo, hhi]
  have HLO := Lib.hid hlo
  have HHI := Lib.hid hhi
  clear hlo hhi
  obtain ⟨B5, hB5⟩ : ∃ B5, B5 = w.heap.size + 1 + 1 + p1.os.size + p2.os.size + p3.os.size + p4.os.size + p5.os.size := ⟨_, rfl⟩
  refine wp_worldE (fun W => TrkBlk W w.heap.size t ∧ RelBlk W (w.heap.size + 1) r (some ⟨b, off, none⟩) cap ∧ TwoBlk W B5 lo hi ∧ Below w.heap.size w W ∧ w.heap.size + 1 < W.heap.size ∧ B5 < W.heap.size) ⟨⟨(by (first | (simp [go_sem]; done) | simp [go_sem, ↓IntWalk.iteOmega])), (by (first | (simp [go_sem]; done) | simp [go_sem, ↓IntWalk.iteOmega])), (by (first | (simp [go_sem]; done) | simp [go_sem, ↓IntWalk.iteOmega])), (by (first | (simp [go_sem]; done) | simp [go_sem, ↓IntWalk.iteOmega])), (by (first | (simp [go_sem]; done) | simp [go_sem, ↓IntWalk.iteOmega])), (by (first | (simp [go_sem]; done) | simp [go_sem, ↓IntWalk.iteOmega])), (by (first | (simp [go_sem]; done) | simp [go_sem, ↓IntWalk.iteOmega])), (by (first | (simp [go_sem]; done) | simp [go_sem, ↓IntWalk.iteOmega])), (by (first | (simp [go_sem]; done) | simp [go_sem, ↓IntWalk.iteOmega]))⟩, ⟨(by (first | (simp [go_sem]; done) | simp [go_sem, ↓IntWalk.iteOmega])), (by (first | (simp [go_sem]; done) | simp [go_sem, ↓IntWalk.iteOmega])), (by (first | (simp [go_sem]; done) | simp [go_sem, ↓IntWalk.iteOmega])), (by (first | (simp [go_sem]; done) | simp [go_sem, ↓IntWalk.iteOmega])), (by (first | (simp [go_sem]; done) | simp [go_sem, ↓IntWalk.iteOmega])), (by (first | (simp [go_sem]; done) | simp [go_sem, ↓IntWalk.iteOmega]))⟩, by subst hB5; exact ⟨(by (first | (simp [go_sem]; done) | simp [go_sem, ↓IntWalk.iteOmega])), (by (first | (simp [go_sem]; done) | simp [go_sem, ↓IntWalk.iteOmega]))⟩, (by (repeat' (first | with_reducible exact Below.refl _ _ | (with_reducible refine below_later_of ?_ ?_ _) | (with_reducible refine Below.alloc ?_ ?_ _) | (with_reducible refine Below.setCell ?_ ?_ _) | (with_reducible refine Below.drew ?_) | (simp; done) | (simp; omega) | omega))), by (simp <;> omega), by subst hB5; (simp <;> omega)⟩ ?_
  rw [← hB5]
  clear hB5
  rintro W2 ⟨tt, kk, ii, hb, hs1, hs5⟩
  have TT := Lib.hid tt
  have KK := Lib.hid kk
  have II := Lib.hid ii
  have HBW := Lib.hid hb
  have hsw := hb.size
  clear tt kk ii hb
  go_loopw [6] (fun i wr => ∃ n : Nat, n ≤ nr ∧ i = .int .i64 n ∧ Below W2.heap.size W2 wr) (fun i _ => nr - (intOf i).toNat)
  case atStart => exact ⟨0, Nat.zero_le _, rfl, Below.refl _ _⟩
  case round =>
    obtain ⟨n, hn, rfl, hnx⟩ := hrel
    obtain ⟨wo, hwo⟩ : ∃ wo : World, wo = wr := ⟨_, rfl⟩
    subst hwo
    have HX := Lib.hid hnx
    have hsz := hnx.size
    obtain ⟨k0, k1, k2, k3, k4, k5⟩ := KK.out.below (show w.heap.size + 1 < W2.heap.size by omega) hnx
    by_cases hlt : n < nr
    · have hd1 : decide ((n : Int) < r.rows) = true := by simp; omega
      clear hnx
      go_wp2
      clear k0 k1 k2 k3 k4 k5
      go_loopw [7] (fun i wr => ∃ k : Nat, k ≤ nc ∧ i = .int .i64 k ∧ Below W2.heap.size W2 wr) (fun i _ => nc - (intOf i).toNat)
      case atStart => exact ⟨0, Nat.zero_le _, rfl, HX.out⟩
      case round =>
        obtain ⟨k, hk, rfl, hnx⟩ := hrel
        have HXI := Lib.hid hnx
        have hszi := hnx.size
        obtain ⟨k0, k1, k2, k3, k4, k5⟩ := KK.out.below (show w.heap.size + 1 < W2.heap.size by omega) hnx
        by_cases hlk : k < nc
        · have hd2 : decide ((k : Int) < r.cols) = true := by simp; omega
          obtain ⟨x, hx⟩ : ∃ x, pxP r k = x := ⟨_, rfl⟩
          obtain ⟨y, hy⟩ : ∃ y, pyP r n = y := ⟨_, rfl⟩
          obtain ⟨z, hz⟩ : ∃ z, intB (bitAt r.ds (idxP r n k)) = z := ⟨_, rfl⟩
          have hpt := fun w2 (hb2 : Below wr.heap.size wr w2) => HPT0.out n k wr w2 hlt hlk (HBW.out.trans (hnx.mono (by omega))) hb2
          rw [hx, hy, hz] at hpt
          have HPT := Lib.hid hpt
          have hcf := HCF.out n k hlt hlk x y z hx hy hz
          have HCC := Lib.hid hcf
          obtain ⟨hh, ee, hht⟩ : ∃ hh ee, heightAtP r x y z = (hh, ee) := ⟨_, _, rfl⟩
          have HH := Lib.hid hht
          have hsw8 := (HBW.out.trans (hnx.mono (by omega))).size
          clear hpt hcf hx hy hz hht hnx
          go_wp2_with (first | (go_at_call 75; refine (HPT.out _ (by (repeat' (first | with_reducible exact Below.refl _ _ | (with_reducible refine below_later_of ?_ ?_ _) | (with_reducible refine Below.alloc ?_ ?_ _) | (with_reducible refine Below.setCell ?_ ?_ _) | (with_reducible refine Below.drew ?_) | (simp; done) | (simp; omega) | omega)))).mono ?_; rintro e w' ⟨rfl, hb⟩; obtain ⟨p0, rfl⟩ := later_of_below hb; clear hb))
          obtain ⟨B8, hB8⟩ : ∃ B8, B8 = wr.heap.size + p0.os.size := ⟨_, rfl⟩
          refine wp_worldE (fun W => TrkBlk W w.heap.size t ∧ RelBlk W (w.heap.size + 1) r (some ⟨b, off, none⟩) cap ∧ TwoBlk W B5 lo hi ∧ TriBlk W B8 x y z ∧ Below wr.heap.size wr W ∧ B8 < W.heap.size) ⟨((TT.out.below (by omega) HXI.out).below (show w.heap.size < wr.heap.size by omega) (by (repeat' (first | with_reducible exact Below.refl _ _ | (with_reducible refine below_later_of ?_ ?_ _) | (with_reducible refine Below.alloc ?_ ?_ _) | (with_reducible refine Below.setCell ?_ ?_ _) | (with_reducible refine Below.drew ?_) | (simp; done) | (simp; omega) | omega)))), ((KK.out.below (by omega) HXI.out).below (show w.heap.size + 1 < wr.heap.size by omega) (by (repeat' (first | with_reducible exact Below.refl _ _ | (with_reducible refine below_later_of ?_ ?_ _) | (with_reducible refine Below.alloc ?_ ?_ _) | (with_reducible refine Below.setCell ?_ ?_ _) | (with_reducible refine Below.drew ?_) | (simp; done) | (simp; omega) | omega)))), ((II.out.below (by omega) HXI.out).below (show B5 < wr.heap.size by omega) (by (repeat' (first | with_reducible exact Below.refl _ _ | (with_reducible refine below_later_of ?_ ?_ _) | (with_reducible refine Below.alloc ?_ ?_ _) | (with_reducible refine Below.setCell ?_ ?_ _) | (with_reducible refine Below.drew ?_) | (simp; done) | (simp; omega) | omega)))), by subst hB8; exact ⟨(by (first | (simp [go_sem]; done) | simp [go_sem, ↓IntWalk.iteOmega])), (by (first | (simp [go_sem]; done) | simp [go_sem, ↓IntWalk.iteOmega])), (by (first | (simp [go_sem]; done) | simp [go_sem, ↓IntWalk.iteOmega]))⟩, (by (repeat' (first | with_reducible exact Below.refl _ _ | (with_reducible refine below_later_of ?_ ?_ _) | (with_reducible refine Below.alloc ?_ ?_ _) | (with_reducible refine Below.setCell ?_ ?_ _) | (with_reducible refine Below.drew ?_) | (simp; done) | (simp; omega) | omega))), by subst hB8; (simp <;> omega)⟩ ?_
          rw [← hB8]
          clear hB8 k0 k1 k2 k3 k4 k5
          rintro W8 ⟨tt8, kk8, ii8, pp8, hb8, hs8⟩
          have hsz8 := hb8.size
          have HX8 := Lib.hid (HXI.out.trans (hb8.mono hszi))
          have TT8 := Lib.hid tt8
          have KK8 := Lib.hid kk8
          have II8 := Lib.hid ii8
          have PP8 := Lib.hid pp8
          have HBW8 := Lib.hid (HBW.out.trans (HX8.out.mono hsw))
          have HSW := Lib.hid (HS.out.below HBW8.out)
          clear tt8 kk8 ii8 pp8 hb8
          obtain ⟨k0, k1, k2, k3, k4, k5⟩ := KK8.out
          obtain ⟨q0, q1, q2⟩ := PP8.out
          go_cut [9, 10] from 65 to 71 (fun X Y wx => X = .int .i64 hh ∧ Y = .int .i64 ee ∧ Below W8.heap.size W8 wx)
          case first =>
            go_region_held3 (fun w' => w'.cell? ⟨w.heap.size + 1, 0, none⟩ = some (.int .i64 r.x) ∧ w'.cell? ⟨w.heap.size + 1, 1, none⟩ = some (.int .i64 r.y) ∧ w'.cell? ⟨w.heap.size + 1, 2, none⟩ = some (.int .i64 r.cell) ∧ w'.cell? ⟨w.heap.size + 1, 3, none⟩ = some (.int .i64 r.rows) ∧ w'.cell? ⟨w.heap.size + 1, 4, none⟩ = some (.int .i64 r.cols) ∧ w'.cell? ⟨w.heap.size + 1, 5, none⟩ = some (.slice (some ⟨b, off, none⟩) r.ds.length cap) ∧ w'.cell? ⟨B8, 0, none⟩ = some (.int .i64 x) ∧ w'.cell? ⟨B8, 1, none⟩ = some (.int .i64 y) ∧ w'.cell? ⟨B8, 2, none⟩ = some (.int .i64 z)) (first | exact ⟨k0, k1, k2, k3, k4, k5, q0, q1, q2⟩ | ((first | (simp [go_sem, k0, k1, k2, k3, k4, k5, q0, q1, q2]; done) | simp [go_sem, k0, k1, k2, k3, k4, k5, q0, q1, q2, ↓IntWalk.iteOmega]); done)) (first | (go_at_call 33; refine (copy_any r (some ⟨b, off, none⟩) cap _ (by omega) (HSW.out.below (by (repeat' (first | with_reducible exact Below.refl _ _ | (with_reducible refine below_later_of ?_ ?_ _) | (with_reducible refine Below.alloc ?_ ?_ _) | (with_reducible refine Below.setCell ?_ ?_ _) | (with_reducible refine Below.drew ?_) | (simp; done) | (simp; omega) | omega)))) HN.out).mono ?_; rintro e w' ⟨a', cap', rfl, hs2, hn2, hb⟩; have HS2 := Lib.hid hs2; have HN2 := Lib.hid hn2; clear hs2 hn2; obtain ⟨pp, rfl⟩ := later_of_below hb; clear hb) | (go_at_call 42; refine (heightAt_any r _ _ x y z _ (by omega) (HS2.out.below (by (repeat' (first | with_reducible exact Below.refl _ _ | (with_reducible refine below_later_of ?_ ?_ _) | (with_reducible refine Below.alloc ?_ ?_ _) | (with_reducible refine Below.setCell ?_ ?_ _) | (with_reducible refine Below.drew ?_) | (simp; done) | (simp; omega) | omega)))) HH.out).mono ?_; rintro e w' ⟨rfl, hb⟩; obtain ⟨pp, rfl⟩ := later_of_below hb; clear hb))
            all_goals
              go_wp2_with fail
              go_meet
              exact ⟨rfl, rfl, (by (repeat' (first | with_reducible exact Below.refl _ _ | (with_reducible refine below_later_of ?_ ?_ _) | (with_reducible refine Below.alloc ?_ ?_ _) | (with_reducible refine Below.setCell ?_ ?_ _) | (with_reducible refine Below.drew ?_) | (simp; done) | (simp; omega) | omega)))⟩
          case rest =>
            obtain ⟨rfl, rfl, hb9⟩ := hcut
            have hsz9 := hb9.size
            have HX9 := Lib.hid (HX8.out.trans (hb9.mono (by omega)))
            have TT9 := Lib.hid (TT8.out.below (show w.heap.size < W8.heap.size by omega) hb9)
            have KK9 := Lib.hid (KK8.out.below (show w.heap.size + 1 < W8.heap.size by omega) hb9)
            have II9 := Lib.hid (II8.out.below (show B5 < W8.heap.size by omega) hb9)
            have PP9 := Lib.hid (PP8.out.below hs8 hb9)
            have HBW9 := Lib.hid (HBW8.out.trans (hb9.mono (by omega)))
            have hs9 : B8 < wc.heap.size := by omega
            have hr9 : W2.heap.size ≤ wc.heap.size := by omega
            clear k0 k1 k2 k3 k4 k5 q0 q1 q2 hb9 TT8 KK8 II8 PP8 HBW8 HSW HX8
            obtain ⟨q0, q1, q2⟩ := PP9.out
            rcases (show placeB x y z = false ∨ placeB x y z = true by cases placeB x y z <;> simp) with hp | hp
            · have HP := Lib.hid hp
              clear hp
              go_wp2_with (first | (go_at_call 45; refine (rIsPlace x y z _ HP.out).mono ?_; rintro e w' ⟨rfl, hb⟩; obtain ⟨p6, rfl⟩ := later_of_below hb; clear hb))
              go_roundw
              case rel => exact ⟨k + 1, by omega, by go_num, HX9.out.trans (below_mono_of hr9 (by (repeat' (first | with_reducible exact Below.refl _ _ | (with_reducible refine below_later_of ?_ ?_ _) | (with_reducible refine Below.alloc ?_ ?_ _) | (with_reducible refine Below.setCell ?_ ?_ _) | (with_reducible refine Below.drew ?_) | (simp; done) | (simp; omega) | omega))))⟩
              case measure => simp [intOf]; omega
            · have HP := Lib.hid hp
              obtain ⟨u, v, e, cf⟩ := HCC.out hp
              clear hp
              have hq := cf.hgt
              rw [HH.out] at hq
              simp only [Prod.mk.injEq] at hq
              obtain ⟨hq1, rfl⟩ := hq
              obtain rfl := hq1.symm
              have HPX := Lib.hid cf.pix
              have CF := Lib.hid cf
              clear cf HCC
              have HB9' := Lib.hid (HBW9.out)
              obtain ⟨t0, t1, t2, t3, t4, t5, t6, t7, t8⟩ := TT9.out
              by_cases he0 : e = 0
              · subst he0
                have hpn := HFW.out u v
                obtain ⟨N, hN⟩ : ∃ N, plN t r 0 u v = N := ⟨_, rfl⟩
                rw [hN] at hpn
                have HPN := Lib.hid hN
                have HSW := Lib.hid (HS.out.below HBW9.out)
                obtain ⟨l0, l1⟩ := II9.out
                go_wp2_with (first | (go_at_call 45; refine (rIsPlace x y z _ HP.out).mono ?_; rintro e w' ⟨rfl, hb⟩; obtain ⟨p6, rfl⟩ := later_of_below hb; clear hb) | (go_at_call 25; refine (pixelOf_f t x y z _ HPX.out).mono ?_; rintro e w' ⟨rfl, hb⟩; obtain ⟨p7, rfl⟩ := later_of_below hb; clear hb))
                obtain ⟨B11, hB11⟩ : ∃ B11, B11 = wc.heap.size + p6.os.size + p7.os.size := ⟨_, rfl⟩
                obtain ⟨B13, hB13⟩ : ∃ B13, B13 = B11 + 1 := ⟨_, rfl⟩
                refine wp_worldE (fun W => TrkBlk W w.heap.size t ∧ RelBlk W (w.heap.size + 1) r (some ⟨b, off, none⟩) cap ∧ TwoBlk W B11 u v ∧ QuadAt W B13 u v lo hi ∧ Below wc.heap.size wc W ∧ B13 < W.heap.size) ⟨(TT9.out.below (show w.heap.size < wc.heap.size by omega) (by (repeat' (first | with_reducible exact Below.refl _ _ | (with_reducible refine below_later_of ?_ ?_ _) | (with_reducible refine Below.alloc ?_ ?_ _) | (with_reducible refine Below.setCell ?_ ?_ _) | (with_reducible refine Below.drew ?_) | (simp; done) | (simp; omega) | omega)))), (KK9.out.below (show w.heap.size + 1 < wc.heap.size by omega) (by (repeat' (first | with_reducible exact Below.refl _ _ | (with_reducible refine below_later_of ?_ ?_ _) | (with_reducible refine Below.alloc ?_ ?_ _) | (with_reducible refine Below.setCell ?_ ?_ _) | (with_reducible refine Below.drew ?_) | (simp; done) | (simp; omega) | omega)))), by subst hB11; exact ⟨(by (first | (simp [go_sem]; done) | simp [go_sem, ↓IntWalk.iteOmega])), (by (first | (simp [go_sem]; done) | simp [go_sem, ↓IntWalk.iteOmega]))⟩, by subst hB13 hB11; exact ⟨(by (first | (simp [go_sem]; done) | simp [go_sem, ↓IntWalk.iteOmega])), (by (first | (simp [go_sem]; done) | simp [go_sem, ↓IntWalk.iteOmega])), (by (first | (simp [go_sem]; done) | simp [go_sem, ↓IntWalk.iteOmega])), (by (first | (simp [go_sem]; done) | simp [go_sem, ↓IntWalk.iteOmega])), (by (first | (simp [go_sem]; done) | simp [go_sem, ↓IntWalk.iteOmega])), (by (first | (simp [go_sem]; done) | simp [go_sem, ↓IntWalk.iteOmega]))⟩, (by (repeat' (first | with_reducible exact Below.refl _ _ | (with_reducible refine below_later_of ?_ ?_ _) | (with_reducible refine Below.alloc ?_ ?_ _) | (with_reducible refine Below.setCell ?_ ?_ _) | (with_reducible refine Below.drew ?_) | (simp; done) | (simp; omega) | omega))), by subst hB13 hB11; (simp <;> omega)⟩ ?_
                rw [← hB11, ← hB13]
                have h1113 : B11 < B13 := by omega
                have hge : wc.heap.size ≤ B11 := by omega
                clear hB11 hB13
                rintro W3 ⟨tt3, kk3, ii3, oo3, hb3, hs3⟩
                have hsz3 := hb3.size
                have TT3 := Lib.hid tt3
                have KK3 := Lib.hid kk3
                have II3 := Lib.hid ii3
                have OO3 := Lib.hid oo3
                have PP3 := Lib.hid (PP9.out.below hs9 hb3)
                have HX3 := Lib.hid (HX9.out.trans (hb3.mono hr9))
                have HSW3 := Lib.hid (HS.out.below (HBW9.out.trans (hb3.mono (show w.heap.size ≤ wc.heap.size by omega))))
                clear tt3 kk3 ii3 oo3 hb3 t0 t1 t2 t3 t4 t5 t6 t7 t8 q0 q1 q2 l0 l1 HSW
                obtain ⟨t0, t1, t2, t3, t4, t5, t6, t7, t8⟩ := TT3.out
                obtain ⟨k0, k1, k2, k3, k4, k5⟩ := KK3.out
                obtain ⟨i0, i1⟩ := II3.out
                obtain ⟨wd, hwd⟩ : ∃ wd : World, wd = wc := ⟨_, rfl⟩
                subst hwd
                go_cut [14, 15] from 99 to 106 (fun X Y wx => ∃ q1 c1, X = .slice q1 N c1 ∧ Y = .int .i64 0 ∧ PairsV wx q1 N (plZ t r u v) ∧ Below W3.heap.size W3 wx)
                case first =>
                  go_region_held3 (fun w' => w'.cell? ⟨w.heap.size, 0, none⟩ = some (.int .i64 t.sx) ∧ w'.cell? ⟨w.heap.size, 1, none⟩ = some (.int .i64 t.sy) ∧ w'.cell? ⟨w.heap.size, 2, none⟩ = some (.int .i64 t.sz) ∧ w'.cell? ⟨w.heap.size, 3, none⟩ = some (.int .i64 t.step) ∧ w'.cell? ⟨w.heap.size, 4, none⟩ = some (.int .i64 t.lines) ∧ w'.cell? ⟨w.heap.size, 5, none⟩ = some (.int .i64 t.near) ∧ w'.cell? ⟨w.heap.size, 6, none⟩ = some (.int .i64 t.bin) ∧ w'.cell? ⟨w.heap.size, 7, none⟩ = some (.int .i64 t.bins) ∧ w'.cell? ⟨w.heap.size, 8, none⟩ = some (.bool t.east) ∧ w'.cell? ⟨w.heap.size + 1, 0, none⟩ = some (.int .i64 r.x) ∧ w'.cell? ⟨w.heap.size + 1, 1, none⟩ = some (.int .i64 r.y) ∧ w'.cell? ⟨w.heap.size + 1, 2, none⟩ = some (.int .i64 r.cell) ∧ w'.cell? ⟨w.heap.size + 1, 3, none⟩ = some (.int .i64 r.rows) ∧ w'.cell? ⟨w.heap.size + 1, 4, none⟩ = some (.int .i64 r.cols) ∧ w'.cell? ⟨w.heap.size + 1, 5, none⟩ = some (.slice (some ⟨b, off, none⟩) r.ds.length cap) ∧ w'.cell? ⟨B11, 0, none⟩ = some (.int .i64 u) ∧ w'.cell? ⟨B11, 1, none⟩ = some (.int .i64 v)) (first | exact ⟨t0, t1, t2, t3, t4, t5, t6, t7, t8, k0, k1, k2, k3, k4, k5, i0, i1⟩ | ((first | (simp [go_sem, t0, t1, t2, t3, t4, t5, t6, t7, t8, k0, k1, k2, k3, k4, k5, i0, i1]; done) | simp [go_sem, t0, t1, t2, t3, t4, t5, t6, t7, t8, k0, k1, k2, k3, k4, k5, i0, i1, ↓IntWalk.iteOmega]); done)) (first | (go_at_call 33; refine (copy_any r (some ⟨b, off, none⟩) cap _ (by omega) (HSW3.out.below (by (repeat' (first | with_reducible exact Below.refl _ _ | (with_reducible refine below_later_of ?_ ?_ _) | (with_reducible refine Below.alloc ?_ ?_ _) | (with_reducible refine Below.setCell ?_ ?_ _) | (with_reducible refine Below.drew ?_) | (simp; done) | (simp; omega) | omega)))) HN.out).mono ?_; rintro e w' ⟨a', cap', rfl, hs2, hn2, hb⟩; have HS2 := Lib.hid hs2; have HN2 := Lib.hid hn2; clear hs2 hn2; obtain ⟨pp, rfl⟩ := later_of_below hb; clear hb) | (go_at_call 59; refine (placed_v t r _ _ u v _ (relAt_any (by omega) (HS2.out.below' (by (repeat' (first | with_reducible exact Below.refl _ _ | (with_reducible refine below_later_of ?_ ?_ _) | (with_reducible refine Below.alloc ?_ ?_ _) | (with_reducible refine Below.setCell ?_ ?_ _) | (with_reducible refine Below.drew ?_) | (simp; done) | (simp; omega) | omega))))) HE.out HPN.out).mono ?_; rintro e w' ⟨q1, c1, rfl, hv1, hb⟩; have HV1 := Lib.hid hv1; clear hv1; obtain ⟨pp, rfl⟩ := later_of_below hb; clear hb))
                  all_goals
                    go_wp2_with fail
                    go_meet
                    exact ⟨_, _, rfl, rfl, HV1.out.below (by (repeat' (first | with_reducible exact Below.refl _ _ | (with_reducible refine below_later_of ?_ ?_ _) | (with_reducible refine Below.alloc ?_ ?_ _) | (with_reducible refine Below.setCell ?_ ?_ _) | (with_reducible refine Below.drew ?_) | (simp; done) | (simp; omega) | omega))), (by (repeat' (first | with_reducible exact Below.refl _ _ | (with_reducible refine below_later_of ?_ ?_ _) | (with_reducible refine Below.alloc ?_ ?_ _) | (with_reducible refine Below.setCell ?_ ?_ _) | (with_reducible refine Below.drew ?_) | (simp; done) | (simp; omega) | omega)))⟩
                case rest =>
                  obtain ⟨q1, c1, rfl, rfl, hv1, hb4⟩ := hcut
                  have hsz4 := hb4.size
                  have TT4 := Lib.hid (TT3.out.below (show w.heap.size < W3.heap.size by omega) hb4)
                  have OO4 := Lib.hid (OO3.out.below hs3 hb4)
                  have PP4 := Lib.hid (PP3.out.below (show B8 < W3.heap.size by omega) hb4)
                  have HX4 := Lib.hid (HX3.out.trans (hb4.mono (by omega)))
                  have hr4 : W2.heap.size ≤ wc.heap.size := by omega
                  have hs4 : B8 < wc.heap.size ∧ B13 < wc.heap.size := by omega
                  obtain ⟨hs48, hs413⟩ := hs4
                  have hfn := CF.out.fnd rfl
                  rw [HPN.out] at hfn
                  obtain ⟨Z, hZ⟩ : ∃ Z, plZ t r u v = Z := ⟨_, rfl⟩
                  rw [hZ] at hv1 hfn
                  have hN0 : 0 < N := by
                    rcases Nat.eq_zero_or_pos N with h0 | h0
                    · subst h0; exact absurd hfn (by simp [fndB])
                    · exact h0
                  obtain ⟨g, rfl, hg, hcl⟩ := hv1 hN0
                  have HCL := Lib.hid hcl
                  have HFN := Lib.hid hfn
                  obtain ⟨bx0, bx1, bx2, bx3, hbo, hw1, hw2⟩ := CF.out.box rfl
                  rw [HLO.out, HHI.out] at hbo
                  have HBO := Lib.hid hbo
                  have HW1 := Lib.hid hw1
                  have HW2 := Lib.hid hw2
                  have HOP := Lib.hid (CF.out.okp rfl)
                  have HBE := Lib.hid CF.out.bxe
                  have HYS := Lib.hid (CF.out.yes rfl)
                  clear hbo hw1 hw2 hfn hcl hZ hb4 t0 t1 t2 t3 t4 t5 t6 t7 t8 k0 k1 k2 k3 k4 k5 i0 i1 TT3 KK3 II3 OO3 PP3 HX3 HSW3 TT9 KK9 II9 PP9 HB9'
                  obtain ⟨t0, t1, t2, t3, t4, t5, t6, t7, t8⟩ := TT4.out
                  obtain ⟨o0, o1, o2, o3, o4, o5⟩ := OO4.out
                  obtain ⟨y0, y1, y2⟩ := PP4.out
                  go_wp2_with (first | (go_at_call 19; refine (boxOf_x t _ _ _ _ _ HBO.out).mono ?_; rintro e w' ⟨rfl, hb⟩; obtain ⟨p8, rfl⟩ := later_of_below hb; clear hb) | (go_at_call 36; (with_reducible refine (bWithin x _ _ _ HW1.out).mono ?_); rintro e w' ⟨rfl, rfl⟩) | (go_at_call 36; (with_reducible refine (bWithin y _ _ _ HW2.out).mono ?_); rintro e w' ⟨rfl, rfl⟩))
                  refine wp_worldE (fun W => TrkBlk W w.heap.size t ∧ TriBlk W B8 x y z ∧ QuadAt W B13 u v lo hi ∧ (∀ j, j < N → W.cell? ⟨g, j * 2, none⟩ = some (.int .i64 (Z (j * 2))) ∧ W.cell? ⟨g, j * 2 + 1, none⟩ = some (.int .i64 (Z (j * 2 + 1)))) ∧ Below wc.heap.size wc W) ⟨(TT4.out.below (show w.heap.size < wc.heap.size by omega) (by (repeat' (first | with_reducible exact Below.refl _ _ | (with_reducible refine below_later_of ?_ ?_ _) | (with_reducible refine Below.alloc ?_ ?_ _) | (with_reducible refine Below.setCell ?_ ?_ _) | (with_reducible refine Below.drew ?_) | (simp; done) | (simp; omega) | omega)))), (PP4.out.below hs48 (by (repeat' (first | with_reducible exact Below.refl _ _ | (with_reducible refine below_later_of ?_ ?_ _) | (with_reducible refine Below.alloc ?_ ?_ _) | (with_reducible refine Below.setCell ?_ ?_ _) | (with_reducible refine Below.drew ?_) | (simp; done) | (simp; omega) | omega)))), (OO4.out.below hs413 (by (repeat' (first | with_reducible exact Below.refl _ _ | (with_reducible refine below_later_of ?_ ?_ _) | (with_reducible refine Below.alloc ?_ ?_ _) | (with_reducible refine Below.setCell ?_ ?_ _) | (with_reducible refine Below.drew ?_) | (simp; done) | (simp; omega) | omega)))), pairs_later HCL.out hg (by (repeat' (first | with_reducible exact Below.refl _ _ | (with_reducible refine below_later_of ?_ ?_ _) | (with_reducible refine Below.alloc ?_ ?_ _) | (with_reducible refine Below.setCell ?_ ?_ _) | (with_reducible refine Below.drew ?_) | (simp; done) | (simp; omega) | omega))), (by (repeat' (first | with_reducible exact Below.refl _ _ | (with_reducible refine below_later_of ?_ ?_ _) | (with_reducible refine Below.alloc ?_ ?_ _) | (with_reducible refine Below.setCell ?_ ?_ _) | (with_reducible refine Below.drew ?_) | (simp; done) | (simp; omega) | omega)))⟩ ?_
                  clear t0 t1 t2 t3 t4 t5 t6 t7 t8 o0 o1 o2 o3 o4 o5 y0 y1 y2
                  rintro W5 ⟨⟨t0, t1, t2, t3, t4, t5, t6, t7, t8⟩, ⟨y0, y1, y2⟩, ⟨o0, o1, o2, o3, o4, o5⟩, hcl, hb5⟩
                  have HC5 := Lib.hid hcl
                  have HX5 := Lib.hid (HX4.out.trans (hb5.mono hr4))
                  have hsz5 := hb5.size
                  clear hcl hb5
                  go_loop [18, 19] (fun f i => ∃ m : Nat, m ≤ N ∧ i = .int .i64 m ∧ f = .bool (fndB Z n k m)) (fun _ i => N - (intOf i).toNat)
                  case atStart => exact ⟨0, Nat.zero_le _, rfl, rfl⟩
                  case round =>
                    obtain ⟨m, hm, rfl, rfl⟩ := hrel
                    by_cases hlm : m < N
                    · have hdm : decide ((m : Int) < (N : Int)) = true := by simp; omega
                      have hdm2 : decide ((m : Int) < 50) = true := by simp; omega
                      obtain ⟨z0, z1⟩ := HC5.out m hlm
                      have HFS := Lib.hid (show fndB Z n k (m + 1) = (fndB Z n k m || (Z (m * 2) == (n : Int) && Z (m * 2 + 1) == (k : Int))) from rfl)
                      generalize fndB Z n k m = fb at HFS ⊢
                      cases fb
                      · go_wp2
                        go_round
                        case rel => exact ⟨m + 1, by omega, by go_num, by rw [HFS.out]; first | rfl | simp⟩
                        case measure => simp [intOf]; omega
                      · go_wp2
                        go_round
                        case rel => exact ⟨m + 1, by omega, by go_num, by rw [HFS.out]; rfl⟩
                        case measure => simp [intOf]; omega
                    · obtain rfl : m = N := by omega
                      have hdm : decide ((m : Int) < (m : Int)) = false := by simp
                      have hfn := HFN.out
                      go_wp2_with (first | (go_at_call 66; refine (inPixel_x t _ _ _ _ _ _ _ _ _ HT.out HOP.out HBE.out HYS.out).mono ?_; rintro e w' ⟨rfl, hb⟩; obtain ⟨p9, rfl⟩ := later_of_below hb; clear hb))
                      go_roundw
                      case rel => exact ⟨k + 1, by omega, by go_num, HX5.out.trans (by (repeat' (first | with_reducible exact Below.refl _ _ | (with_reducible refine below_later_of ?_ ?_ _) | (with_reducible refine Below.alloc ?_ ?_ _) | (with_reducible refine Below.setCell ?_ ?_ _) | (with_reducible refine Below.drew ?_) | (simp; done) | (simp; omega) | omega)))⟩
                      case measure => simp [intOf]; omega
              · obtain rfl := CF.out.err he0
                clear he0
                go_wp2_with (first | (go_at_call 45; refine (rIsPlace x y z _ HP.out).mono ?_; rintro e w' ⟨rfl, hb⟩; obtain ⟨p6, rfl⟩ := later_of_below hb; clear hb) | (go_at_call 25; refine (pixelOf_f t x y z _ HPX.out).mono ?_; rintro e w' ⟨rfl, hb⟩; obtain ⟨p7, rfl⟩ := later_of_below hb; clear hb))
                go_roundw
                case rel => exact ⟨k + 1, by omega, by go_num, HX9.out.trans (below_mono_of hr9 (by (repeat' (first | with_reducible exact Below.refl _ _ | (with_reducible refine below_later_of ?_ ?_ _) | (with_reducible refine Below.alloc ?_ ?_ _) | (with_reducible refine Below.setCell ?_ ?_ _) | (with_reducible refine Below.drew ?_) | (simp; done) | (simp; omega) | omega))))⟩
                case measure => simp [intOf]; omega
        · obtain rfl : k = nc := by omega
          have hd2 : decide ((k : Int) < r.cols) = false := by simp; omega
          clear hnx
          go_wp2
          go_roundw
          case rel => exact ⟨n + 1, by omega, by go_num, HXI.out⟩
          case measure => simp [intOf]; omega
    · obtain rfl : n = nr := by omega
      have hd1 : decide ((n : Int) < r.rows) = false := by simp; omega
      clear hnx
      go_wp2
      go_ret
      exact ⟨rfl, HBW.out.trans (HX.out.mono (by omega))⟩
set_option maxRecDepth 20000 in
set_option maxHeartbeats 1000000 in
theorem gab_err (t : Trk) (r : Rel) (a : Option Addr) (cap : Nat) (w : World) (hl : r.ds.length ≤ 40) (hs : SrcAt w a r.ds) (hr : relErrP feB r ≠ 0) :
    Calls Try.prog 16 #[.agg #[.int .i64 t.sx, .int .i64 t.sy, .int .i64 t.sz, .int .i64 t.step, .int .i64 t.lines, .int .i64 t.near, .int .i64 t.bin, .int .i64 t.bins, .bool t.east], .agg #[.int .i64 r.x, .int .i64 r.y, .int .i64 r.cell, .int .i64 r.rows, .int .i64 r.cols, .slice a r.ds.length cap]] w fun e w' => e = .returned (.bool true) ∧ Below w.heap.size w w' := by
  have hd : decide ((40 : Int) < (r.ds.length : Int)) = false := by simp; omega
  have HS := Lib.hid hs
  clear hs
  by_cases ht : checkTrackP t = 0
  · obtain ⟨e0, hv⟩ : ∃ e0, relErrP feB r = e0 := ⟨_, rfl⟩
    rw [hv] at hr
    have hne : (e0 != 0) = true := by simpa using hr
    have HT := Lib.hid ht
    have HCK := Lib.hid hv
    clear ht hr hv
    go_enter Try.func16, Try.ntmps16
    go_wp2_with (first | (go_at_call 72; refine (grounded_any _).mono ?_; rintro e w' ⟨rfl, hb⟩; obtain ⟨p1, rfl⟩ := later_of_below hb; clear hb) | (go_at_call 20; refine (rCheckTrack t _ HT.out).mono ?_; rintro e w' ⟨rfl, hb⟩; obtain ⟨p2, rfl⟩ := later_of_below hb; clear hb) | (go_at_call 43; refine (rCheckRelief_e r a cap _ HCK.out (by omega) (HS.out.below (by (repeat' (first | with_reducible exact Below.refl _ _ | (with_reducible refine below_later_of ?_ ?_ _) | (with_reducible refine Below.alloc ?_ ?_ _) | (with_reducible refine Below.setCell ?_ ?_ _) | (with_reducible refine Below.drew ?_) | (simp; done) | (simp; omega) | omega))))).mono ?_; rintro e w' ⟨rfl, hb⟩; obtain ⟨p3, rfl⟩ := later_of_below hb; clear hb))
    go_ret
    exact ⟨rfl, (by (repeat' (first | with_reducible exact Below.refl _ _ | (with_reducible refine below_later_of ?_ ?_ _) | (with_reducible refine Below.alloc ?_ ?_ _) | (with_reducible refine Below.setCell ?_ ?_ _) | (with_reducible refine Below.drew ?_) | (simp; done) | (simp; omega) | omega)))⟩
  · obtain ⟨e0, hv⟩ : ∃ e0, checkTrackP t = e0 := ⟨_, rfl⟩
    rw [hv] at ht
    have hne : (e0 != 0) = true := by simpa using ht
    have HT := Lib.hid hv
    clear ht hv hr
    go_enter Try.func16, Try.ntmps16
    go_wp2_with (first | (go_at_call 72; refine (grounded_any _).mono ?_; rintro e w' ⟨rfl, hb⟩; obtain ⟨p1, rfl⟩ := later_of_below hb; clear hb) | (go_at_call 20; refine (rCheckTrack t _ HT.out).mono ?_; rintro e w' ⟨rfl, hb⟩; obtain ⟨p2, rfl⟩ := later_of_below hb; clear hb))
    go_ret
    exact ⟨rfl, (by (repeat' (first | with_reducible exact Below.refl _ _ | (with_reducible refine below_later_of ?_ ?_ _) | (with_reducible refine Below.alloc ?_ ?_ _) | (with_reducible refine Below.setCell ?_ ?_ _) | (with_reducible refine Below.drew ?_) | (simp; done) | (simp; omega) | omega)))⟩
theorem gab_any (t : Trk) (r : Rel) (a : Option Addr) (cap : Nat) (w : World) (hs : SrcAt w a r.ds) :
    Calls Try.prog 16 #[.agg #[.int .i64 t.sx, .int .i64 t.sy, .int .i64 t.sz, .int .i64 t.step, .int .i64 t.lines, .int .i64 t.near, .int .i64 t.bin, .int .i64 t.bins, .bool t.east], .agg #[.int .i64 r.x, .int .i64 r.y, .int .i64 r.cell, .int .i64 r.rows, .int .i64 r.cols, .slice a r.ds.length cap]] w fun e w' => e = .returned (.bool true) ∧ Below w.heap.size w w' := by
  by_cases hl : r.ds.length ≤ 40
  · by_cases hp : 0 < r.ds.length
    · obtain ⟨b, off, rfl, hbw, hc⟩ := hs hp
      by_cases he : viewErrP feB intB t r = 0
      · exact gab_ok t r b off cap w hl hbw hc he
      · exact gab_bad t r b off cap w hl hbw hc he
    · exact gab_err t r a cap w hl hs fun h => hp (rel_pos h)
  · exact gab_many t r a cap w hl
end Go.Proofs.Ytokpdmlmlkkekaa
