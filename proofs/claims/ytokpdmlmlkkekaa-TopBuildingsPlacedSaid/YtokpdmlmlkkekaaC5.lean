/- Placed: the reference. -/
import Derived.Test.YtokpdmlmlkkekaaZC
import Derived.Test.YtokpdmlmlkkekaaC3
import Derived.Test.YtokpdmlmlkkekaaZT
namespace Go.Proofs.Ytokpdmlmlkkekaa
set_option linter.unusedVariables false
open Go.RowKit
theorem py_coo {r : Rel} (o : r.Ok) {k : Int} (h1 : 0 ≤ k) (h2 : k < r.rows) : Coo (pyP r k) := by
  obtain ⟨u1, u2⟩ := cell_bd o h1 (show k ≤ 64 by have := o.r2; omega)
  have := o.y1; have := o.y2; have := o.c1; have := o.c2
  unfold pyP Coo; omega
set_option maxRecDepth 20000 in
set_option maxHeartbeats 8000000 in
theorem rPlaced (t : Trk) (r : Rel) (b off cap : Nat) (u v : Int) (w : World) (he : viewErrP feB intB t r = 0) (hbw : b < w.heap.size) (hfl : FloatsAt w b off r.ds) :
    Calls Try.prog 60 #[.agg #[.int .i64 t.sx, .int .i64 t.sy, .int .i64 t.sz, .int .i64 t.step, .int .i64 t.lines, .int .i64 t.near, .int .i64 t.bin, .int .i64 t.bins, .bool t.east], .agg #[.int .i64 r.x, .int .i64 r.y, .int .i64 r.cell, .int .i64 r.rows, .int .i64 r.cols, .slice (some ⟨b, off, none⟩) r.ds.length cap], .agg #[.int .i64 u, .int .i64 v]] w fun e w' => ∃ val, e = .returned val ∧ w'.ownsRow w.heap.size 44 2 val (cnGrid t r intB u v r.rows.toNat) (plGrid t r intB u v r.rows.toNat) ∧ Below w.heap.size w w' := by
  obtain ⟨i0, hi, hz0, hz1, hz2⟩ := info_parts info44
  obtain ⟨h1, h2, -, -⟩ := viewErrP_ok he
  have hf := flInts_any h2
  have ot := checkTrackP_ok h1
  have o := (relErrP_ok h2).1
  obtain ⟨nr, hnr⟩ : ∃ nr : Nat, r.rows.toNat = nr := ⟨_, rfl⟩
  obtain ⟨nc, hnc⟩ : ∃ nc : Nat, r.cols.toNat = nc := ⟨_, rfl⟩
  rw [hnr]
  have b1 : (nr : Int) ≤ r.rows := by have := o.r1; omega
  have b2 : r.rows ≤ (nr : Int) := by have := o.r1; omega
  have b3 : nr ≤ 64 := by have := o.r2; omega
  have b4 : nc ≤ 64 := by have := o.l2; omega
  have b5 : (nc : Int) ≤ r.cols := by have := o.l1; omega
  have b6 : r.cols ≤ (nc : Int) := by have := o.l1; omega
  have HG := Lib.hid (show ∀ n : Nat, cnGrid t r intB u v (n + 1) = cnGrid t r intB u v n + cnRow t r intB u v n nc ∧ plGrid t r intB u v (n + 1) = plGrid t r intB u v n ++ plRow t r intB u v n nc from fun n => by rw [cnGrid, plGrid, hnc]; exact ⟨rfl, rfl⟩)
  have HCL := Lib.hid (cnGrid_le t r intB u v (by omega))
  have HRL := Lib.hid (cnRow_le t r intB u v)
  have HPT0 := Lib.hid (show ∀ (n k : Nat) (w1 w2 : World), n < nr → k < nc → Below w.heap.size w w1 → Below w1.heap.size w1 w2 → Calls Try.prog 75 #[.agg #[.int .i64 r.x, .int .i64 r.y, .int .i64 r.cell, .int .i64 r.rows, .int .i64 r.cols, .slice (some ⟨b, off, none⟩) r.ds.length cap], .int .i64 (n : Int), .int .i64 (k : Int)] w2 fun e w' => e = .returned (.agg #[.int .i64 (pxP r k), .int .i64 (pyP r n), .int .i64 (intB (bitAt r.ds (idxP r n k)))]) ∧ Below w2.heap.size w2 w' from fun n k w1 w2 hn hk hb1 hb2 => by
    obtain ⟨_, _, _, hil⟩ := idx_lt o (Int.natCast_nonneg n) (show (n : Int) < r.rows by omega) (Int.natCast_nonneg k) (show (k : Int) < r.cols by omega)
    exact rPoint r b off cap n k _ w2 o (Int.natCast_nonneg n) (by omega) (Int.natCast_nonneg k) (by omega) (Nat.lt_of_lt_of_le hbw (Nat.le_trans hb1.size hb2.size)) ((hfl.below hbw hb1).below (Nat.lt_of_lt_of_le hbw hb1.size) hb2) (hf _ hil).1)
  have HHT := Lib.hid (show ∀ n k : Nat, n < nr → k < nc → Coo (pxP r k) ∧ Coo (pyP r n) ∧ Coo (intB (bitAt r.ds (idxP r n k))) from fun n k hn hk => by
    obtain ⟨_, _, _, hil⟩ := idx_lt o (Int.natCast_nonneg n) (show (n : Int) < r.rows by omega) (Int.natCast_nonneg k) (show (k : Int) < r.cols by omega)
    obtain ⟨_, h2, h3⟩ := hf _ hil
    exact ⟨px_coo o (Int.natCast_nonneg k) (by omega), py_coo o (Int.natCast_nonneg n) (by omega), by unfold Coo; omega⟩)
  have OT := Lib.hid ot
  clear he h1 h2 hf hfl ot o hnr hnc
  go_enter Try.func60, Try.ntmps60
  go_wp2
  refine wp_world (fun W => TrkBlk W w.heap.size t ∧ RelBlk W (w.heap.size + 1) r (some ⟨b, off, none⟩) cap ∧ TwoBlk W (w.heap.size + 1 + 1) u v ∧ Below w.heap.size w W ∧ w.heap.size + 1 + 1 < W.heap.size) ⟨⟨(by (first | (simp [go_sem]; done) | simp [go_sem, ↓IntWalk.iteOmega])), (by (first | (simp [go_sem]; done) | simp [go_sem, ↓IntWalk.iteOmega])), (by (first | (simp [go_sem]; done) | simp [go_sem, ↓IntWalk.iteOmega])), (by (first | (simp [go_sem]; done) | simp [go_sem, ↓IntWalk.iteOmega])), (by (first | (simp [go_sem]; done) | simp [go_sem, ↓IntWalk.iteOmega])), (by (first | (simp [go_sem]; done) | simp [go_sem, ↓IntWalk.iteOmega])), (by (first | (simp [go_sem]; done) | simp [go_sem, ↓IntWalk.iteOmega])), (by (first | (simp [go_sem]; done) | simp [go_sem, ↓IntWalk.iteOmega])), (by (first | (simp [go_sem]; done) | simp [go_sem, ↓IntWalk.iteOmega]))⟩, ⟨(by (first | (simp [go_sem]; done) | simp [go_sem, ↓IntWalk.iteOmega])), (by (first | (simp [go_sem]; done) | simp [go_sem, ↓IntWalk.iteOmega])), (by (first | (simp [go_sem]; done) | simp [go_sem, ↓IntWalk.iteOmega])), (by (first | (simp [go_sem]; done) | simp [go_sem, ↓IntWalk.iteOmega])), (by (first | (simp [go_sem]; done) | simp [go_sem, ↓IntWalk.iteOmega])), (by (first | (simp [go_sem]; done) | simp [go_sem, ↓IntWalk.iteOmega]))⟩, ⟨(by (first | (simp [go_sem]; done) | simp [go_sem, ↓IntWalk.iteOmega])), (by (first | (simp [go_sem]; done) | simp [go_sem, ↓IntWalk.iteOmega]))⟩, (by (repeat' (first | with_reducible exact Below.refl _ _ | (with_reducible refine below_later_of ?_ ?_ _) | (with_reducible refine Below.alloc ?_ ?_ _) | (with_reducible refine Below.setCell ?_ ?_ _) | (with_reducible refine Below.drew ?_) | (simp; done) | (simp; omega) | omega))), by (simp <;> omega)⟩ ?_
  rintro W2 ⟨tt, kk, ii, hb, hs5⟩
  have TT := Lib.hid tt
  have KK := Lib.hid kk
  have II := Lib.hid ii
  have HBW := Lib.hid hb
  clear tt kk ii hb
  go_loopw [7, 8] (fun s i wr => ∃ n : Nat, n ≤ nr ∧ i = .int .i64 n ∧ wr.ownsRow W2.heap.size 44 2 s (cnGrid t r intB u v n) (plGrid t r intB u v n) ∧ Below W2.heap.size W2 wr) (fun _ i _ => nr - (intOf i).toNat)
  case atStart => exact ⟨0, Nat.zero_le _, rfl, World.ownsRow_nil _ _ _ _, Below.refl _ _⟩
  case round =>
    obtain ⟨n, hn, rfl, hown, hnx⟩ := hrel
    have HO1 := Lib.hid hown
    have HX := Lib.hid hnx
    have hsz := hnx.size
    obtain ⟨k0, k1, k2, k3, k4, k5⟩ := KK.out.below (show w.heap.size + 1 < W2.heap.size by omega) hnx
    by_cases hlt : n < nr
    · have hd1 : decide ((n : Int) < r.rows) = true := by simp; omega
      clear hown hnx
      go_wp2
      clear k0 k1 k2 k3 k4 k5
      go_loopw [7, 9] (fun s i wr => ∃ k : Nat, k ≤ nc ∧ i = .int .i64 k ∧ wr.ownsRow W2.heap.size 44 2 s (cnGrid t r intB u v n + cnRow t r intB u v n k) (plGrid t r intB u v n ++ plRow t r intB u v n k) ∧ Below W2.heap.size W2 wr) (fun _ i _ => nc - (intOf i).toNat)
      case atStart => exact ⟨0, Nat.zero_le _, rfl, by simp only [cnRow, plRow, Nat.add_zero, List.append_nil]; exact HO1.out, HX.out⟩
      case round =>
        obtain ⟨k, hk, rfl, hown, hnx⟩ := hrel
        have HO := Lib.hid hown
        have HXI := Lib.hid hnx
        have hszi := hnx.size
        obtain ⟨k0, k1, k2, k3, k4, k5⟩ := KK.out.below (show w.heap.size + 1 < W2.heap.size by omega) hnx
        by_cases hlk : k < nc
        · have hd2 : decide ((k : Int) < r.cols) = true := by simp; omega
          obtain ⟨t0, t1, t2, t3, t4, t5, t6, t7, t8⟩ := TT.out.below (show w.heap.size < W2.heap.size by omega) hnx
          obtain ⟨i0', i1'⟩ := II.out.below hs5 hnx
          have HPT := Lib.hid (show ∀ w2, Below wr.heap.size wr w2 → _ from fun w2 hb => HPT0.out n k wr w2 hlt hlk (HBW.out.trans (hnx.mono (by omega))) hb)
          obtain ⟨X1, X2, X3⟩ := HHT.out n k hlt hlk
          have ot := OT.out
          have HC0 := Lib.hid (show cnRow t r intB u v n (k + 1) = cnRow t r intB u v n k + if hitB t r intB u v n k then 1 else 0 from rfl)
          have HP0 := Lib.hid (show plRow t r intB u v n (k + 1) = plRow t r intB u v n k ++ if hitB t r intB u v n k then [.int .i64 n, .int .i64 k] else [] from rfl)
          have hhit : hitB t r intB u v n k = ((lineP t (pyP r n) == u) && (binP t (rootP (sqP (offP t (pxP r k)) (depthP t (intB (bitAt r.ds (idxP r n k)))))) == v)) := rfl
          have HLN := Lib.hid (show ∀ w2, Calls Try.prog 97 #[.agg #[.int .i64 t.sx, .int .i64 t.sy, .int .i64 t.sz, .int .i64 t.step, .int .i64 t.lines, .int .i64 t.near, .int .i64 t.bin, .int .i64 t.bins, .bool t.east], .int .i64 (pyP r n)] w2 fun e w' => e = .returned (.int .i64 (lineP t (pyP r n))) ∧ Below w2.heap.size w2 w' from fun w2 => rLineOf1 t _ w2 ot (by have := X2.1; omega) (by have := X2.2; omega))
          have HSQ := Lib.hid (show ∀ w2, Calls Try.prog 100 #[.agg #[.int .i64 t.sx, .int .i64 t.sy, .int .i64 t.sz, .int .i64 t.step, .int .i64 t.lines, .int .i64 t.near, .int .i64 t.bin, .int .i64 t.bins, .bool t.east], .agg #[.int .i64 (pxP r k), .int .i64 (pyP r n), .int .i64 (intB (bitAt r.ds (idxP r n k)))]] w2 fun e w' => e = .returned (.int .i64 (sqP (offP t (pxP r k)) (depthP t (intB (bitAt r.ds (idxP r n k)))))) ∧ Below w2.heap.size w2 w' from fun w2 => rSquareW t _ _ _ w2 ot.sx1 ot.sx2 X1.1 X1.2 ot.sz1 ot.sz2 X3.1 X3.2)
          obtain ⟨s1, s2⟩ := (show 0 ≤ sqP (offP t (pxP r k)) (depthP t (intB (bitAt r.ds (idxP r n k)))) ∧ sqP (offP t (pxP r k)) (depthP t (intB (bitAt r.ds (idxP r n k)))) ≤ 180000000000000000 from sq_w ot X1 X3)
          have HRT := Lib.hid (show ∀ w2, Calls Try.prog 88 #[.int .i64 (sqP (offP t (pxP r k)) (depthP t (intB (bitAt r.ds (idxP r n k)))))] w2 fun e w' => e = .returned (.int .i64 (rootP (sqP (offP t (pxP r k)) (depthP t (intB (bitAt r.ds (idxP r n k))))))) ∧ w2 = w' from fun w2 => bRoot _ w2 s1 (by omega))
          have r1 := (rootP_spec _ s1 (by omega)).1
          have r2 := rootP_le _ s1 (by omega)
          have HBN := Lib.hid (show ∀ w2, Calls Try.prog 99 #[.agg #[.int .i64 t.sx, .int .i64 t.sy, .int .i64 t.sz, .int .i64 t.step, .int .i64 t.lines, .int .i64 t.near, .int .i64 t.bin, .int .i64 t.bins, .bool t.east], .int .i64 (rootP (sqP (offP t (pxP r k)) (depthP t (intB (bitAt r.ds (idxP r n k))))))] w2 fun e w' => e = .returned (.int .i64 (binP t (rootP (sqP (offP t (pxP r k)) (depthP t (intB (bitAt r.ds (idxP r n k)))))))) ∧ Below w2.heap.size w2 w' from fun w2 => rBin t _ w2 ot.ne1 ot.ne2 ot.bi1 ot.bi2 (by omega) (by omega))
          generalize binP t (rootP (sqP (offP t (pxP r k)) (depthP t (intB (bitAt r.ds (idxP r n k)))))) = bn at *
          generalize rootP (sqP (offP t (pxP r k)) (depthP t (intB (bitAt r.ds (idxP r n k))))) = rt at *
          generalize sqP (offP t (pxP r k)) (depthP t (intB (bitAt r.ds (idxP r n k)))) = sq at *
          generalize lineP t (pyP r n) = ln at *
          have hcl := HCL.out n
          have hrl := HRL.out n k
          clear X1 X2 X3 ot s1 s2 r1 r2 hown hnx
          by_cases q1 : ln = u
          · have q1' : (ln == u) = true := by simpa using q1
            by_cases q2 : bn = v
            · have q2' : (bn == v) = true := by simpa using q2
              have HC1 := Lib.hid (show cnRow t r intB u v n (k + 1) = cnRow t r intB u v n k + 1 by rw [HC0.out, hhit, q1', q2']; rfl)
              have HP1 := Lib.hid (show plRow t r intB u v n (k + 1) = plRow t r intB u v n k ++ [.int .i64 n, .int .i64 k] by rw [HP0.out, hhit, q1', q2']; rfl)
              clear hhit q1 q2
              go_wp2_with (first | (go_at_call 75; refine (HPT.out _ (by (repeat' (first | with_reducible exact Below.refl _ _ | (with_reducible refine below_later_of ?_ ?_ _) | (with_reducible refine Below.alloc ?_ ?_ _) | (with_reducible refine Below.setCell ?_ ?_ _) | (with_reducible refine Below.drew ?_) | (simp; done) | (simp; omega) | omega)))).mono ?_; rintro e w' ⟨rfl, hb⟩; obtain ⟨pp, rfl⟩ := later_of_below hb; clear hb))
              refine wp_region_calm (by kernel_rfl) (by kernel_rfl) ?_
              repeat (go_big_quiet_step (first | (go_at_call 97; exact calm_of (HLN.out _)) | (go_at_call 100; exact calm_of (HSQ.out _)) | (go_at_call 88; exact calm_same (HRT.out _)) | (go_at_call 99; exact calm_of (HBN.out _))))
              refine wpQuiet_nil ?_
              rintro _ ⟨p1, rfl⟩
              go_wp2_with (first | (at_builtin; refine wpList_append_own _ rfl _ _ 99 rfl W2.heap.size 44 i0 (.agg #[.int .i64 0, .int .i64 0]) 2 16 Try.underlying99 hi hz0 hz1 hz2 rfl (by decide) _ _ _ rfl (ownsRow_below HO.out ?cb) ⟨_, 0, none⟩ 1 1 [.int .i64 n, .int .i64 k] rfl rfl ?c1 ?c2 ?c3 ?c4 ?c5 ?_))
              case cb => exact (by (repeat' (first | with_reducible exact Below.refl _ _ | (with_reducible refine below_later_of ?_ ?_ _) | (with_reducible refine Below.alloc ?_ ?_ _) | (with_reducible refine Below.setCell ?_ ?_ _) | (with_reducible refine Below.drew ?_) | (simp; done) | (simp; omega) | omega)))
              case c1 =>
                intro j x hj
                rcases j with _ | _ | j
                · simp at hj; subst hj; (first | (simp [Addr.add, go_sem]; done) | simp [Addr.add, go_sem, ↓IntWalk.iteOmega])
                · simp at hj; subst hj; (first | (simp [Addr.add, go_sem]; done) | simp [Addr.add, go_sem, ↓IntWalk.iteOmega])
                · simp at hj
              case c2 => intro x hx; simp at hx; rcases hx with rfl | rfl <;> rfl
              case c3 => unfold maxLen; omega
              case c4 => omega
              case c5 => simp; omega
              intro v' w1 hown' hgrow _
              have HX1 := Lib.hid (show Below W2.heap.size W2 w1 from (HXI.out.trans (show Below W2.heap.size wr _ from below_mono_of hszi (by (repeat' (first | with_reducible exact Below.refl _ _ | (with_reducible refine below_later_of ?_ ?_ _) | (with_reducible refine Below.alloc ?_ ?_ _) | (with_reducible refine Below.setCell ?_ ?_ _) | (with_reducible refine Below.drew ?_) | (simp; done) | (simp; omega) | omega))))).grown hgrow (by simp; omega) (fun g hg => (HO.out.lt g hg).1))
              have HO2 := Lib.hid hown'
              clear hown' hgrow
              go_wp2
              go_roundw
              case rel => exact ⟨k + 1, by omega, by go_num, by rw [HC1.out, HP1.out, ← Nat.add_assoc]; exact HO2.out, HX1.out⟩
              case measure => simp [intOf]; omega
            · have q2' : (bn == v) = false := by simpa using q2
              have HC1 := Lib.hid (show cnRow t r intB u v n (k + 1) = cnRow t r intB u v n k by rw [HC0.out, hhit, q1', q2']; rfl)
              have HP1 := Lib.hid (show plRow t r intB u v n (k + 1) = plRow t r intB u v n k by rw [HP0.out, hhit, q1', q2']; simp)
              clear hhit q1 q2
              go_wp2_with (first | (go_at_call 75; refine (HPT.out _ (by (repeat' (first | with_reducible exact Below.refl _ _ | (with_reducible refine below_later_of ?_ ?_ _) | (with_reducible refine Below.alloc ?_ ?_ _) | (with_reducible refine Below.setCell ?_ ?_ _) | (with_reducible refine Below.drew ?_) | (simp; done) | (simp; omega) | omega)))).mono ?_; rintro e w' ⟨rfl, hb⟩; obtain ⟨pp, rfl⟩ := later_of_below hb; clear hb))
              refine wp_region_calm (by kernel_rfl) (by kernel_rfl) ?_
              repeat (go_big_quiet_step (first | (go_at_call 97; exact calm_of (HLN.out _)) | (go_at_call 100; exact calm_of (HSQ.out _)) | (go_at_call 88; exact calm_same (HRT.out _)) | (go_at_call 99; exact calm_of (HBN.out _))))
              refine wpQuiet_nil ?_
              rintro _ ⟨p1, rfl⟩
              go_wp2
              (go_roundw; (case rel => exact ⟨k + 1, by omega, by go_num, by rw [HC1.out, HP1.out]; exact ownsRow_below HO.out (by (repeat' (first | with_reducible exact Below.refl _ _ | (with_reducible refine below_later_of ?_ ?_ _) | (with_reducible refine Below.alloc ?_ ?_ _) | (with_reducible refine Below.setCell ?_ ?_ _) | (with_reducible refine Below.drew ?_) | (simp; done) | (simp; omega) | omega))), HXI.out.trans (below_mono_of hszi (by (repeat' (first | with_reducible exact Below.refl _ _ | (with_reducible refine below_later_of ?_ ?_ _) | (with_reducible refine Below.alloc ?_ ?_ _) | (with_reducible refine Below.setCell ?_ ?_ _) | (with_reducible refine Below.drew ?_) | (simp; done) | (simp; omega) | omega))))⟩); (case measure => simp [intOf]; omega))
          · have q1' : (ln == u) = false := by simpa using q1
            have HC1 := Lib.hid (show cnRow t r intB u v n (k + 1) = cnRow t r intB u v n k by rw [HC0.out, hhit, q1']; rfl)
            have HP1 := Lib.hid (show plRow t r intB u v n (k + 1) = plRow t r intB u v n k by rw [HP0.out, hhit, q1']; simp)
            clear hhit q1
            go_wp2_with (first | (go_at_call 75; refine (HPT.out _ (by (repeat' (first | with_reducible exact Below.refl _ _ | (with_reducible refine below_later_of ?_ ?_ _) | (with_reducible refine Below.alloc ?_ ?_ _) | (with_reducible refine Below.setCell ?_ ?_ _) | (with_reducible refine Below.drew ?_) | (simp; done) | (simp; omega) | omega)))).mono ?_; rintro e w' ⟨rfl, hb⟩; obtain ⟨pp, rfl⟩ := later_of_below hb; clear hb))
            refine wp_region_calm (by kernel_rfl) (by kernel_rfl) ?_
            repeat (go_big_quiet_step (first | (go_at_call 97; exact calm_of (HLN.out _)) | (go_at_call 100; exact calm_of (HSQ.out _)) | (go_at_call 88; exact calm_same (HRT.out _)) | (go_at_call 99; exact calm_of (HBN.out _))))
            refine wpQuiet_nil ?_
            rintro _ ⟨p1, rfl⟩
            go_wp2
            (go_roundw; (case rel => exact ⟨k + 1, by omega, by go_num, by rw [HC1.out, HP1.out]; exact ownsRow_below HO.out (by (repeat' (first | with_reducible exact Below.refl _ _ | (with_reducible refine below_later_of ?_ ?_ _) | (with_reducible refine Below.alloc ?_ ?_ _) | (with_reducible refine Below.setCell ?_ ?_ _) | (with_reducible refine Below.drew ?_) | (simp; done) | (simp; omega) | omega))), HXI.out.trans (below_mono_of hszi (by (repeat' (first | with_reducible exact Below.refl _ _ | (with_reducible refine below_later_of ?_ ?_ _) | (with_reducible refine Below.alloc ?_ ?_ _) | (with_reducible refine Below.setCell ?_ ?_ _) | (with_reducible refine Below.drew ?_) | (simp; done) | (simp; omega) | omega))))⟩); (case measure => simp [intOf]; omega))
        · obtain rfl : k = nc := by omega
          have hd2 : decide ((k : Int) < r.cols) = false := by simp; omega
          clear hown hnx
          go_wp2
          go_roundw
          case rel => exact ⟨n + 1, by omega, by go_num, by rw [(HG.out n).1, (HG.out n).2]; exact HO.out, HXI.out⟩
          case measure => simp [intOf]; omega
    · obtain rfl : n = nr := by omega
      have hd1 : decide ((n : Int) < r.rows) = false := by simp; omega
      clear hown hnx
      go_wp2
      go_ret
      exact ⟨_, rfl, ownsRow_mono HO1.out (by omega), HBW.out.trans (HX.out.mono (by omega))⟩
end Go.Proofs.Ytokpdmlmlkkekaa
