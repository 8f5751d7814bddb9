/- Masks: the reference's Blocker. -/
import Derived.Test.YtokpdmlmlkkekaaM5
import Derived.Test.YtokpdmlmlkkekaaS5
import Derived.Deep.CutRange
import Derived.Deep.RegionHeld3
namespace Go.Proofs.Ytokpdmlmlkkekaa
set_option linter.unusedVariables false
open Go.RowKit
theorem TriBlk.lt {w : World} {B : Nat} {x y z : Int} (h : TriBlk w B x y z) : B < w.heap.size := World.block_lt_of_cell? _ _ h.1
@[go_sem] theorem field_place0 (a b c : Value) (w : World) : (Instr.field 23 (.agg #[a, b, c]) 0).run Try.prog w = .ok a w := by kernel_rfl
set_option maxRecDepth 20000 in
set_option maxHeartbeats 8000000 in
theorem rBlocker (t : Trk) (r : Rel) (fi : Nat → Int) (b off cap : Nat) (row col : Int) (w : World) (ot : t.Ok) (o : r.Ok) (hf : FlInts fi r.ds) (hh : hasCellB r row col = true)
    (hbw : b < w.heap.size) (hc : FloatsAt w b off r.ds) {x e0 : Int} (hm : (if bestP t r fi row col r.cols.toNat < 0 then ((0 : Int), (12 : Int)) else (bestP t r fi row col r.cols.toNat, 0)) = (x, e0)) :
    Calls Try.prog 40 #[.agg #[.int .i64 t.sx, .int .i64 t.sy, .int .i64 t.sz, .int .i64 t.step, .int .i64 t.lines, .int .i64 t.near, .int .i64 t.bin, .int .i64 t.bins, .bool t.east], .agg #[.int .i64 r.x, .int .i64 r.y, .int .i64 r.cell, .int .i64 r.rows, .int .i64 r.cols, .slice (some ⟨b, off, none⟩) r.ds.length cap], .agg #[.int .i64 row, .int .i64 col]] w fun e w' => e = .returned (.tuple #[.int .i64 x, .int .i64 e0]) ∧ Below w.heap.size w w' := by
  obtain ⟨⟨g1, g2'⟩, hc1, hc2⟩ := hasCellB_iff.1 hh
  have g2 : row < r.rows := by omega
  have OT := Lib.hid ot
  have O := Lib.hid o
  have HFI := Lib.hid hf
  have HFC := Lib.hid hc
  obtain ⟨n, hn⟩ : ∃ n : Nat, r.cols.toNat = n := ⟨_, rfl⟩
  obtain ⟨k, hk⟩ : ∃ k : Nat, col = k := ⟨col.toNat, by omega⟩
  subst hk
  have hn1 : (n : Int) = r.cols := by have := o.l1; omega
  have hnl : n ≤ 64 := by have := o.l2; omega
  have hkn : k < n := by omega
  have a3 : (n : Int) ≤ r.cols := by omega
  have a4 : r.cols ≤ (n : Int) := by omega
  rw [hn] at hm
  have HM := Lib.hid hm
  have HPT0 := Lib.hid (show ∀ (c : Nat) (w1 w2 : World), (c : Int) < r.cols → Below w.heap.size w w1 → Below w1.heap.size w1 w2 → Calls Try.prog 75 #[.agg #[.int .i64 r.x, .int .i64 r.y, .int .i64 r.cell, .int .i64 r.rows, .int .i64 r.cols, .slice (some ⟨b, off, none⟩) r.ds.length cap], .int .i64 row, .int .i64 (c : Int)] w2 fun e w' => e = .returned (.agg #[.int .i64 (pxP r c), .int .i64 (pyP r row), .int .i64 (hgP r fi row c)]) ∧ Below w2.heap.size w2 w' from fun c w1 w2 hc1 hb1 hb2 => by
    obtain ⟨_, _, _, hil⟩ := idx_lt o g1 g2 (Int.natCast_nonneg c) hc1
    exact rPoint r b off cap row c _ w2 o g1 g2 (Int.natCast_nonneg c) hc1 (Nat.lt_of_lt_of_le hbw (Nat.le_trans hb1.size hb2.size)) ((hc.below hbw hb1).below (Nat.lt_of_lt_of_le hbw hb1.size) hb2) (hf _ hil).1)
  have HGC := Lib.hid (show ∀ c : Nat, (c : Int) < r.cols → Coo (hgP r fi row c) from fun c hc1 => by
    obtain ⟨_, _, _, hil⟩ := idx_lt o g1 g2 (Int.natCast_nonneg c) hc1
    obtain ⟨_, h2, h3⟩ := hf _ hil
    unfold Coo hgP; omega)
  have XW := Lib.hid (show ∀ z : Int, Coo z → -1000000000 ≤ z ∧ z ≤ 1000000000 from fun z h => ⟨Int.le_trans (by decide) h.1, Int.le_trans h.2 (by decide)⟩)
  have s1 := ot.sx1
  have s2 := ot.sx2
  have HBD := Lib.hid (bestP_bd t r fi row k)
  have HNO := Lib.hid (show ∀ m : Nat, hidesP (offP t (pxP r m)) (depthP t (hgP r fi row m)) (offP t (pxP r k)) (depthP t (hgP r fi row k)) = false → bestP t r fi row k (m + 1) = bestP t r fi row k m from fun m h => bestP_no h)
  have HFI1 := Lib.hid (show ∀ m : Nat, hidesP (offP t (pxP r m)) (depthP t (hgP r fi row m)) (offP t (pxP r k)) (depthP t (hgP r fi row k)) = true → bestP t r fi row k m < 0 → bestP t r fi row k (m + 1) = m from fun m h h2 => bestP_first h h2)
  have HLE := Lib.hid (show ∀ m j : Nat, hidesP (offP t (pxP r m)) (depthP t (hgP r fi row m)) (offP t (pxP r k)) (depthP t (hgP r fi row k)) = true → bestP t r fi row k m = j → offP t (pxP r m) < offP t (pxP r j) → bestP t r fi row k (m + 1) = m from fun m j h hj h2 => bestP_less h (by rw [hj]; exact h2))
  have HMO := Lib.hid (show ∀ m j : Nat, bestP t r fi row k m = j → ¬ offP t (pxP r m) < offP t (pxP r j) → bestP t r fi row k (m + 1) = j from fun m j hj h2 => (bestP_more (by omega) (by rw [hj]; exact h2)).trans hj)
  have HB0 := Lib.hid (show bestP t r fi row k 0 = -1 from rfl)
  have XK := Lib.hid (px_coo o (Int.natCast_nonneg k) (show (k : Int) < r.cols by omega))
  have ZK := Lib.hid (HGC.out k (by omega))
  obtain ⟨-, -, -, -, -, -, r1, r2, l1, l2, -⟩ := o
  clear ot hf hc hn hn1 hh hm g2'
  go_enter Try.func40, Try.ntmps40
  go_wp2_with (first | (go_at_call 75; refine (HPT0.out _ w _ (by omega) (Below.refl _ _) (by (repeat' (first | with_reducible exact Below.refl _ _ | (with_reducible refine below_later_of ?_ ?_ _) | (with_reducible refine Below.alloc ?_ ?_ _) | (with_reducible refine Below.setCell ?_ ?_ _) | (with_reducible refine Below.drew ?_) | (simp; done) | (simp; omega) | omega)))).mono ?_; rintro e w' ⟨rfl, hb⟩; obtain ⟨pp, rfl⟩ := later_of_below hb; clear hb))
  refine wp_world (fun W => TrkBlk W w.heap.size t ∧ ReliefBlk W (w.heap.size + 1) r (some ⟨b, off, none⟩) cap ∧ TwoBlk W (w.heap.size + 1 + 1) row k ∧ TriBlk W (later (((w.alloc (.cells #[.int .i64 t.sx, .int .i64 t.sy, .int .i64 t.sz, .int .i64 t.step, .int .i64 t.lines, .int .i64 t.near, .int .i64 t.bin, .int .i64 t.bins, .bool t.east] 25)).alloc (.cells #[.int .i64 r.x, .int .i64 r.y, .int .i64 r.cell, .int .i64 r.rows, .int .i64 r.cols, .slice (some ⟨b, off, none⟩) r.ds.length cap] 59)).alloc (.cells #[.int .i64 row, .int .i64 (k : Int)] 44)) pp).heap.size (pxP r k) (pyP r row) (hgP r fi row k) ∧ Below w.heap.size w W ∧ w.heap.size + 1 + 1 < W.heap.size) ⟨⟨(by (first | (simp [go_sem]; done) | simp [go_sem, ↓IntWalk.iteOmega])), (by (first | (simp [go_sem]; done) | simp [go_sem, ↓IntWalk.iteOmega])), (by (first | (simp [go_sem]; done) | simp [go_sem, ↓IntWalk.iteOmega])), (by (first | (simp [go_sem]; done) | simp [go_sem, ↓IntWalk.iteOmega])), (by (first | (simp [go_sem]; done) | simp [go_sem, ↓IntWalk.iteOmega])), (by (first | (simp [go_sem]; done) | simp [go_sem, ↓IntWalk.iteOmega])), (by (first | (simp [go_sem]; done) | simp [go_sem, ↓IntWalk.iteOmega])), (by (first | (simp [go_sem]; done) | simp [go_sem, ↓IntWalk.iteOmega])), (by (first | (simp [go_sem]; done) | simp [go_sem, ↓IntWalk.iteOmega]))⟩, ⟨(by (first | (simp [go_sem]; done) | simp [go_sem, ↓IntWalk.iteOmega])), (by (first | (simp [go_sem]; done) | simp [go_sem, ↓IntWalk.iteOmega])), (by (first | (simp [go_sem]; done) | simp [go_sem, ↓IntWalk.iteOmega])), (by (first | (simp [go_sem]; done) | simp [go_sem, ↓IntWalk.iteOmega])), (by (first | (simp [go_sem]; done) | simp [go_sem, ↓IntWalk.iteOmega])), (by (first | (simp [go_sem]; done) | simp [go_sem, ↓IntWalk.iteOmega]))⟩, ⟨(by (first | (simp [go_sem]; done) | simp [go_sem, ↓IntWalk.iteOmega])), (by (first | (simp [go_sem]; done) | simp [go_sem, ↓IntWalk.iteOmega]))⟩, ⟨(by (first | (simp [go_sem]; done) | simp [go_sem, ↓IntWalk.iteOmega])), (by (first | (simp [go_sem]; done) | simp [go_sem, ↓IntWalk.iteOmega])), (by (first | (simp [go_sem]; done) | simp [go_sem, ↓IntWalk.iteOmega]))⟩, (by (repeat' (first | with_reducible exact Below.refl _ _ | (with_reducible refine below_later_of ?_ ?_ _) | (with_reducible refine Below.alloc ?_ ?_ _) | (with_reducible refine Below.setCell ?_ ?_ _) | (with_reducible refine Below.drew ?_) | (simp; done) | (simp; omega) | omega))), by simp; omega⟩ ?_
  rintro W2 ⟨tt, kk, ii, bb, hb, hs5⟩
  obtain ⟨B9, hB9⟩ : ∃ B9, w.heap.size + 1 + 1 + 1 + pp.os.size = B9 := ⟨_, rfl⟩
  simp only [size_later, World.size_alloc] at bb
  rw [hB9] at bb ⊢
  clear hB9
  have hs9 := TriBlk.lt bb
  have TT := Lib.hid tt
  have KK := Lib.hid kk
  have II := Lib.hid ii
  have BB := Lib.hid bb
  have HBW := Lib.hid hb
  clear tt kk ii bb hb
  go_loopw [8, 10] (fun bs i wr => ∃ m : Nat, m ≤ n ∧ i = .int .i64 m ∧ bs = .int .i64 (bestP t r fi row k m) ∧ Below W2.heap.size W2 wr) (fun _ i _ => n - (intOf i).toNat)
  case atStart => exact ⟨0, Nat.zero_le _, rfl, by rw [HB0.out], Below.refl _ _⟩
  case round =>
    obtain ⟨m, hmn, rfl, rfl, hnx⟩ := hrel
    have HX := Lib.hid hnx
    have hszi := hnx.size
    have HBX := Lib.hid (HBW.out.trans (hnx.mono (by omega)))
    obtain ⟨t0, t1, t2, t3, t4, t5, t6, t7, t8⟩ := TT.out.below (show w.heap.size < W2.heap.size by omega) hnx
    obtain ⟨k0, k1, k2, k3, k4, k5⟩ := KK.out.below (show w.heap.size + 1 < W2.heap.size by omega) hnx
    obtain ⟨i0, i1⟩ := II.out.below hs5 hnx
    obtain ⟨b0, b1, b2⟩ := BB.out.below hs9 hnx
    have HPT := Lib.hid (show ∀ (c : Nat) (w2 : World), (c : Int) < r.cols → Below wr.heap.size wr w2 → Calls Try.prog 75 #[.agg #[.int .i64 r.x, .int .i64 r.y, .int .i64 r.cell, .int .i64 r.rows, .int .i64 r.cols, .slice (some ⟨b, off, none⟩) r.ds.length cap], .int .i64 row, .int .i64 (c : Int)] w2 fun e w' => e = .returned (.agg #[.int .i64 (pxP r c), .int .i64 (pyP r row), .int .i64 (hgP r fi row c)]) ∧ Below w2.heap.size w2 w' from fun c w2 hc1 hb2 => HPT0.out c wr w2 hc1 HBX.out hb2)
    clear hnx
    by_cases hlt : m < n
    · have hdm : decide ((m : Int) < r.cols) = true := by simp; omega
      have XM := Lib.hid (px_coo O.out (Int.natCast_nonneg m) (show (m : Int) < r.cols by omega))
      have ZM := Lib.hid (HGC.out m (by omega))
      have H1 := Lib.hid (HNO.out m)
      have H2 := Lib.hid (HFI1.out m)
      have H3 := Lib.hid (HLE.out m)
      have H4 := Lib.hid (HMO.out m)
      obtain ⟨bd1, bd2⟩ := HBD.out m
      rcases (show hidesP (offP t (pxP r m)) (depthP t (hgP r fi row m)) (offP t (pxP r k)) (depthP t (hgP r fi row k)) = false ∨ hidesP (offP t (pxP r m)) (depthP t (hgP r fi row m)) (offP t (pxP r k)) (depthP t (hgP r fi row k)) = true by cases hidesP (offP t (pxP r m)) (depthP t (hgP r fi row m)) (offP t (pxP r k)) (depthP t (hgP r fi row k)) <;> simp) with hd | hd
      · have HBE := Lib.hid (H1.out hd)
        have HD := Lib.hid hd
        clear H1 H2 H3 H4 hd
        generalize bestP t r fi row k m = be at *
        go_wp2_with (first | (go_at_call 75; refine (HPT.out _ _ (by omega) (by (repeat' (first | with_reducible exact Below.refl _ _ | (with_reducible refine below_later_of ?_ ?_ _) | (with_reducible refine Below.alloc ?_ ?_ _) | (with_reducible refine Below.setCell ?_ ?_ _) | (with_reducible refine Below.drew ?_) | (simp; done) | (simp; omega) | omega)))).mono ?_; rintro e w' ⟨rfl, hb⟩; obtain ⟨pp, rfl⟩ := later_of_below hb; clear hb))
        refine wp_region_calm (by kernel_rfl) (by kernel_rfl) ?_
        repeat (go_big_quiet_step (first | (go_at_call 108; exact calm_of (by with_reducible exact rShades t _ _ _ _ _ _ _ OT.out XM.out ZM.out XK.out ZK.out HD.out))))
        refine wpQuiet_nil ?_
        rintro _ ⟨p1, rfl⟩
        go_wp2
        (go_roundw; (case rel => exact ⟨m + 1, by omega, by go_num, by rw [HBE.out], HX.out.trans (below_mono_of hszi (by (repeat' (first | with_reducible exact Below.refl _ _ | (with_reducible refine below_later_of ?_ ?_ _) | (with_reducible refine Below.alloc ?_ ?_ _) | (with_reducible refine Below.setCell ?_ ?_ _) | (with_reducible refine Below.drew ?_) | (simp; done) | (simp; omega) | omega))))⟩); (case measure => simp [intOf]; omega))
      · by_cases hn : bestP t r fi row k m < 0
        · have HBE := Lib.hid (H2.out hd hn)
          have HD := Lib.hid hd
          clear H1 H2 H3 H4 hd
          generalize bestP t r fi row k m = be at *
          go_wp2_with (first | (go_at_call 75; refine (HPT.out _ _ (by omega) (by (repeat' (first | with_reducible exact Below.refl _ _ | (with_reducible refine below_later_of ?_ ?_ _) | (with_reducible refine Below.alloc ?_ ?_ _) | (with_reducible refine Below.setCell ?_ ?_ _) | (with_reducible refine Below.drew ?_) | (simp; done) | (simp; omega) | omega)))).mono ?_; rintro e w' ⟨rfl, hb⟩; obtain ⟨pp, rfl⟩ := later_of_below hb; clear hb))
          refine wp_region_calm (by kernel_rfl) (by kernel_rfl) ?_
          repeat (go_big_quiet_step (first | (go_at_call 108; exact calm_of (by with_reducible exact rShades t _ _ _ _ _ _ _ OT.out XM.out ZM.out XK.out ZK.out HD.out))))
          refine wpQuiet_nil ?_
          rintro _ ⟨p1, rfl⟩
          go_wp2
          (go_roundw; (case rel => exact ⟨m + 1, by omega, by go_num, by rw [HBE.out], HX.out.trans (below_mono_of hszi (by (repeat' (first | with_reducible exact Below.refl _ _ | (with_reducible refine below_later_of ?_ ?_ _) | (with_reducible refine Below.alloc ?_ ?_ _) | (with_reducible refine Below.setCell ?_ ?_ _) | (with_reducible refine Below.drew ?_) | (simp; done) | (simp; omega) | omega))))⟩); (case measure => simp [intOf]; omega))
        · obtain ⟨j, hj⟩ : ∃ j : Nat, bestP t r fi row k m = j := ⟨(bestP t r fi row k m).toNat, by omega⟩
          have HD := Lib.hid hd
          have hjn : j < n := by omega
          have hj0 : decide ((j : Int) < 0) = false := by simp
          have XJ := Lib.hid (px_coo O.out (Int.natCast_nonneg j) (show (j : Int) < r.cols by omega))
          by_cases hlj : offP t (pxP r m) < offP t (pxP r j)
          · have HBE := Lib.hid (H3.out j hd hj hlj)
            rw [hj]
            clear H1 H2 H3 H4 hd hn hj bd1 bd2
            go_wp2_with (first | (go_at_call 75; refine (HPT.out _ _ (by omega) (by (repeat' (first | with_reducible exact Below.refl _ _ | (with_reducible refine below_later_of ?_ ?_ _) | (with_reducible refine Below.alloc ?_ ?_ _) | (with_reducible refine Below.setCell ?_ ?_ _) | (with_reducible refine Below.drew ?_) | (simp; done) | (simp; omega) | omega)))).mono ?_; rintro e w' ⟨rfl, hb⟩; obtain ⟨pp, rfl⟩ := later_of_below hb; clear hb))
            refine wp_region_calm (by kernel_rfl) (by kernel_rfl) ?_
            repeat (go_big_quiet_step (first | (go_at_call 108; exact calm_of (by with_reducible exact rShades t _ _ _ _ _ _ _ OT.out XM.out ZM.out XK.out ZK.out HD.out)) | (go_at_call 98; exact calm_of (by with_reducible exact rOff t (pxP r m) _ s1 s2 (XW.out _ XM.out).1 (XW.out _ XM.out).2)) | (go_at_call 98; exact calm_of (by with_reducible exact rOff t (pxP r j) _ s1 s2 (XW.out _ XJ.out).1 (XW.out _ XJ.out).2)) | (go_at_call 75; exact calm_of (HPT.out _ _ (by omega) (by (repeat' (first | with_reducible exact Below.refl _ _ | (with_reducible refine below_later_of ?_ ?_ _) | (with_reducible refine Below.alloc ?_ ?_ _) | (with_reducible refine Below.setCell ?_ ?_ _) | (with_reducible refine Below.drew ?_) | (simp; done) | (simp; omega) | omega)))))))
            refine wpQuiet_nil ?_
            rintro _ ⟨p1, rfl⟩
            go_wp2
            (go_roundw; (case rel => exact ⟨m + 1, by omega, by go_num, by rw [HBE.out], HX.out.trans (below_mono_of hszi (by (repeat' (first | with_reducible exact Below.refl _ _ | (with_reducible refine below_later_of ?_ ?_ _) | (with_reducible refine Below.alloc ?_ ?_ _) | (with_reducible refine Below.setCell ?_ ?_ _) | (with_reducible refine Below.drew ?_) | (simp; done) | (simp; omega) | omega))))⟩); (case measure => simp [intOf]; omega))
          · have HBE := Lib.hid (H4.out j hj (by omega))
            have hlj' : decide (offP t (pxP r m) < offP t (pxP r j)) = false := by simpa using hlj
            rw [hj]
            clear H1 H2 H3 H4 hd hn hj bd1 bd2
            go_wp2_with (first | (go_at_call 75; refine (HPT.out _ _ (by omega) (by (repeat' (first | with_reducible exact Below.refl _ _ | (with_reducible refine below_later_of ?_ ?_ _) | (with_reducible refine Below.alloc ?_ ?_ _) | (with_reducible refine Below.setCell ?_ ?_ _) | (with_reducible refine Below.drew ?_) | (simp; done) | (simp; omega) | omega)))).mono ?_; rintro e w' ⟨rfl, hb⟩; obtain ⟨pp, rfl⟩ := later_of_below hb; clear hb))
            refine wp_region_calm (by kernel_rfl) (by kernel_rfl) ?_
            repeat (go_big_quiet_step (first | (go_at_call 108; exact calm_of (by with_reducible exact rShades t _ _ _ _ _ _ _ OT.out XM.out ZM.out XK.out ZK.out HD.out)) | (go_at_call 98; exact calm_of (by with_reducible exact rOff t (pxP r m) _ s1 s2 (XW.out _ XM.out).1 (XW.out _ XM.out).2)) | (go_at_call 98; exact calm_of (by with_reducible exact rOff t (pxP r j) _ s1 s2 (XW.out _ XJ.out).1 (XW.out _ XJ.out).2)) | (go_at_call 75; exact calm_of (HPT.out _ _ (by omega) (by (repeat' (first | with_reducible exact Below.refl _ _ | (with_reducible refine below_later_of ?_ ?_ _) | (with_reducible refine Below.alloc ?_ ?_ _) | (with_reducible refine Below.setCell ?_ ?_ _) | (with_reducible refine Below.drew ?_) | (simp; done) | (simp; omega) | omega)))))))
            refine wpQuiet_nil ?_
            rintro _ ⟨p1, rfl⟩
            go_wp2
            (go_roundw; (case rel => exact ⟨m + 1, by omega, by go_num, by rw [HBE.out], HX.out.trans (below_mono_of hszi (by (repeat' (first | with_reducible exact Below.refl _ _ | (with_reducible refine below_later_of ?_ ?_ _) | (with_reducible refine Below.alloc ?_ ?_ _) | (with_reducible refine Below.setCell ?_ ?_ _) | (with_reducible refine Below.drew ?_) | (simp; done) | (simp; omega) | omega))))⟩); (case measure => simp [intOf]; omega))
    · obtain rfl : m = n := by omega
      have hdm : decide ((m : Int) < r.cols) = false := by simp; omega
      obtain ⟨bd1, bd2⟩ := HBD.out m
      obtain ⟨be, hbe⟩ : ∃ be, bestP t r fi row k m = be := ⟨_, rfl⟩
      have HM2 := Lib.hid (show (if be < 0 then ((0 : Int), (12 : Int)) else (be, 0)) = (x, e0) by rw [← hbe]; exact HM.out)
      rw [hbe] at bd1 bd2 ⊢
      clear hbe
      by_cases hn : be < 0
      · have h9 := HM2.out
        rw [if_pos hn] at h9
        simp only [Prod.mk.injEq] at h9
        obtain ⟨rfl, rfl⟩ := h9
        go_wp2
        go_ret2
        exact ⟨rfl, HBX.out⟩
      · have h9 := HM2.out
        rw [if_neg hn] at h9
        simp only [Prod.mk.injEq] at h9
        obtain ⟨rfl, rfl⟩ := h9
        have hn' : decide (be < 0) = false := by simpa using hn
        go_wp2
        go_ret2
        exact ⟨rfl, HBX.out⟩
end Go.Proofs.Ytokpdmlmlkkekaa
