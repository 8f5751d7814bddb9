/- Masks: the reference's mask of a row. -/
import Derived.Test.YtokpdmlmlkkekaaM5
import Derived.Deep.CutRange
import Derived.Deep.RegionHeld3
namespace Go.Proofs.Ytokpdmlmlkkekaa
set_option linter.unusedVariables false
open Go.RowKit
set_option maxRecDepth 20000 in
set_option maxHeartbeats 40000000 in
theorem rMaskRow (t : Trk) (r : Rel) (fi : Nat → Int) (b off cap : Nat) (row : Int) (w : World) (ot : t.Ok) (o : r.Ok) (hf : FlInts fi r.ds) (g1 : 0 ≤ row) (g2 : row < r.rows)
    (hbw : b < w.heap.size) (hc : FloatsAt w b off r.ds) :
    Calls Try.prog 39 #[.agg #[.int .i64 t.sx, .int .i64 t.sy, .int .i64 t.sz, .int .i64 t.step, .int .i64 t.lines, .int .i64 t.near, .int .i64 t.bin, .int .i64 t.bins, .bool t.east], .agg #[.int .i64 r.x, .int .i64 r.y, .int .i64 r.cell, .int .i64 r.rows, .int .i64 r.cols, .slice (some ⟨b, off, none⟩) r.ds.length cap], .int .i64 row] w fun e w' => ∃ v, e = .returned v ∧ w'.ownsRow w.heap.size 3 1 v r.cols.toNat ((kindsP t r fi row).map (.int .i64)) ∧ Below w.heap.size w w' := by
  obtain ⟨i0, hi, hz0, hz1, hz2⟩ := info_parts info3
  have OT := Lib.hid ot
  have O := Lib.hid o
  have HFI := Lib.hid hf
  have HFC := Lib.hid hc
  obtain ⟨n, hn⟩ : ∃ n : Nat, r.cols.toNat = n := ⟨_, rfl⟩
  have hn1 : (n : Int) = r.cols := by have := o.l1; omega
  have hnl : n ≤ 64 := by have := o.l2; omega
  have a3 : (n : Int) ≤ r.cols := by omega
  have a4 : r.cols ≤ (n : Int) := by omega
  have HKS := Lib.hid (show kindsP t r fi row = (List.range n).map (kindP t r fi row) by unfold kindsP; rw [hn])
  have HKP := Lib.hid (show ∀ k, kindP t r fi row k = kindB (anyOver t r fi row k n) (anyShadow t r fi row k n) from fun k => by unfold kindP; rw [hn])
  have HN := Lib.hid hn
  have HPT0 := Lib.hid (show ∀ (c : Nat) (w1 w2 : World), (c : Int) < r.cols → Below w.heap.size w w1 → Below w1.heap.size w1 w2 → Calls Try.prog 75 #[.agg #[.int .i64 r.x, .int .i64 r.y, .int .i64 r.cell, .int .i64 r.rows, .int .i64 r.cols, .slice (some ⟨b, off, none⟩) r.ds.length cap], .int .i64 row, .int .i64 (c : Int)] w2 fun e w' => e = .returned (.agg #[.int .i64 (pxP r c), .int .i64 (pyP r row), .int .i64 (hgP r fi row c)]) ∧ Below w2.heap.size w2 w' from fun c w1 w2 hc1 hb1 hb2 => by
    obtain ⟨_, _, _, hil⟩ := idx_lt o g1 g2 (Int.natCast_nonneg c) hc1
    exact rPoint r b off cap row c _ w2 o g1 g2 (Int.natCast_nonneg c) hc1 (Nat.lt_of_lt_of_le hbw (Nat.le_trans hb1.size hb2.size)) ((hc.below hbw hb1).below (Nat.lt_of_lt_of_le hbw hb1.size) hb2) (hf _ hil).1)
  have HGC := Lib.hid (show ∀ c : Nat, (c : Int) < r.cols → Coo (hgP r fi row c) from fun c hc1 => by
    obtain ⟨_, _, _, hil⟩ := idx_lt o g1 g2 (Int.natCast_nonneg c) hc1
    obtain ⟨_, h2, h3⟩ := hf _ hil
    unfold Coo hgP; omega)
  have HSOK0 := Lib.hid (show ∀ k m : Nat, anyOver t r fi row k (m + 1) = (anyOver t r fi row k m || liesP (offP t (pxP r m)) (depthP t (hgP r fi row m)) (offP t (pxP r k)) (depthP t (hgP r fi row k))) from fun k m =>  anyOver_succ t r fi row k m)
  have HSSK0 := Lib.hid (show ∀ k m : Nat, anyShadow t r fi row k (m + 1) = (anyShadow t r fi row k m || hidesP (offP t (pxP r m)) (depthP t (hgP r fi row m)) (offP t (pxP r k)) (depthP t (hgP r fi row k))) from fun k m =>  anyShadow_succ t r fi row k m)
  obtain ⟨-, -, -, -, -, -, r1, r2, l1, l2, -⟩ := o
  clear ot hf hc hn hn1
  go_enter Try.func39, Try.ntmps39
  go_wp2
  obtain ⟨W2, hW2, hT2, hR2, hB2, hs2⟩ : ∃ W2, (w.alloc (.cells #[.int .i64 t.sx, .int .i64 t.sy, .int .i64 t.sz, .int .i64 t.step, .int .i64 t.lines, .int .i64 t.near, .int .i64 t.bin, .int .i64 t.bins, .bool t.east] 25)).alloc (.cells #[.int .i64 r.x, .int .i64 r.y, .int .i64 r.cell, .int .i64 r.rows, .int .i64 r.cols, .slice (some ⟨b, off, none⟩) r.ds.length cap] 59) = W2 ∧ TrkBlk W2 w.heap.size t ∧ ReliefBlk W2 (w.heap.size + 1) r (some ⟨b, off, none⟩) cap ∧ Below w.heap.size w W2 ∧ w.heap.size + 1 < W2.heap.size :=
    ⟨_, rfl, (trkBlk_alloc w t _).below (C := w.heap.size + 1) (by omega) ((Below.refl _ _).alloc (by simp) _), by have := reliefBlk_alloc (w.alloc (.cells #[.int .i64 t.sx, .int .i64 t.sy, .int .i64 t.sz, .int .i64 t.step, .int .i64 t.lines, .int .i64 t.near, .int .i64 t.bin, .int .i64 t.bins, .bool t.east] 25)) r (some ⟨b, off, none⟩) cap 59; simpa using this, (by (repeat' (first | with_reducible exact Below.refl _ _ | (with_reducible refine below_later_of ?_ ?_ _) | (with_reducible refine Below.alloc ?_ ?_ _) | (with_reducible refine Below.setCell ?_ ?_ _) | (with_reducible refine Below.drew ?_) | (simp; done) | (simp; omega) | omega))), by simp⟩
  rw [hW2]
  have HT2 := Lib.hid hT2
  have HR2 := Lib.hid hR2
  have HB2 := Lib.hid hB2
  clear hW2 hT2 hR2 hB2
  go_loopw [7, 8] (fun v i wr => ∃ k : Nat, k ≤ n ∧ i = .int .i64 k ∧ wr.ownsRow W2.heap.size 3 1 v k (((List.range k).map (kindP t r fi row)).map (.int .i64)) ∧ Below W2.heap.size W2 wr) (fun _ i _ => n - (intOf i).toNat)
  case atStart => exact ⟨0, Nat.zero_le _, rfl, World.ownsRow_nil _ _ _ _, Below.refl _ _⟩
  case round =>
    obtain ⟨k, hkn, rfl, hown, hnx⟩ := hrel
    obtain ⟨wo, hwo⟩ : ∃ wo : World, wo = wr := ⟨_, rfl⟩
    subst hwo
    have HX := Lib.hid hnx
    have HO0 := Lib.hid hown
    obtain ⟨q0, q1, q2, q3, q4, q5⟩ := HR2.out.below hs2 hnx
    have hszo := hnx.size
    clear hnx hown
    by_cases hlt : k < n
    · have hdl : decide ((k : Int) < r.cols) = true := by simp; omega
      have XK := Lib.hid (px_coo O.out (Int.natCast_nonneg k) (show (k : Int) < r.cols by omega))
      have ZK := Lib.hid (HGC.out k (by omega))
      have HKK := Lib.hid (HKP.out k)
      have HSOK := Lib.hid (HSOK0.out k)
      have HSSK := Lib.hid (HSSK0.out k)
      have HOV0 := Lib.hid (show anyOver t r fi row k 0 = false from rfl)
      have HSH0 := Lib.hid (show anyShadow t r fi row k 0 = false from rfl)
      go_wp2
      clear q0 q1 q2 q3 q4 q5
      go_loopw [9, 10, 11] (fun ov sh i wr => ∃ m : Nat, m ≤ n ∧ i = .int .i64 m ∧ ov = .bool (anyOver t r fi row k m) ∧ sh = .bool (anyShadow t r fi row k m) ∧ Below wo.heap.size wo wr) (fun _ _ i _ => n - (intOf i).toNat)
      case atStart => exact ⟨0, Nat.zero_le _, rfl, by rw [HOV0.out], by rw [HSH0.out], Below.refl _ _⟩
      case round =>
        obtain ⟨m, hmn, rfl, rfl, rfl, hnx⟩ := hrel
        have HXI := Lib.hid hnx
        have hbx : Below W2.heap.size W2 wr := HX.out.trans (hnx.mono hszo)
        have HXW := Lib.hid hbx
        obtain ⟨q0, q1, q2, q3, q4, q5⟩ := HR2.out.below hs2 hbx
        obtain ⟨t0, t1, t2, t3, t4, t5, t6, t7, t8⟩ := HT2.out.below (show w.heap.size < W2.heap.size by omega) hbx
        have hszi := hnx.size
        have HFW := Lib.hid (HFC.out.below hbw (HB2.out.trans (hbx.mono (by omega))))
        have hbr : b < wr.heap.size := by omega
        have hTB := HT2.out.below (show w.heap.size < W2.heap.size by omega) hbx
        have HTB := Lib.hid hTB
        clear hnx hbx hTB
        by_cases hlm : m < n
        · have hdm : decide ((m : Int) < r.cols) = true := by simp; omega
          have XM := Lib.hid (px_coo O.out (Int.natCast_nonneg m) (show (m : Int) < r.cols by omega))
          have ZM := Lib.hid (HGC.out m (by omega))
          have HSO := Lib.hid (HSOK.out m)
          have HSS := Lib.hid (HSSK.out m)
          have HPT := Lib.hid (show ∀ (c : Nat) (w2 : World), (c : Int) < r.cols → Below wr.heap.size wr w2 → Calls Try.prog 75 #[.agg #[.int .i64 r.x, .int .i64 r.y, .int .i64 r.cell, .int .i64 r.rows, .int .i64 r.cols, .slice (some ⟨b, off, none⟩) r.ds.length cap], .int .i64 row, .int .i64 (c : Int)] w2 fun e w' => e = .returned (.agg #[.int .i64 (pxP r c), .int .i64 (pyP r row), .int .i64 (hgP r fi row c)]) ∧ Below w2.heap.size w2 w' from fun c w2 hc1 hb2 =>
            HPT0.out c wr w2 hc1 (HB2.out.trans (HXW.out.mono (by omega))) hb2)
          obtain ⟨l, hl⟩ : ∃ l, liesP (offP t (pxP r m)) (depthP t (hgP r fi row m)) (offP t (pxP r k)) (depthP t (hgP r fi row k)) = l := ⟨_, rfl⟩
          obtain ⟨h, hh⟩ : ∃ h, hidesP (offP t (pxP r m)) (depthP t (hgP r fi row m)) (offP t (pxP r k)) (depthP t (hgP r fi row k)) = h := ⟨_, rfl⟩
          have HL := Lib.hid hl
          have HD := Lib.hid hh
          rw [hl] at HSO
          rw [hh] at HSS
          clear hl hh
          generalize anyOver t r fi row k m = ov at HSO
          generalize anyShadow t r fi row k m = sh at HSS
          have HRC := Lib.hid (show ∀ w', Below wr.heap.size wr w' → w'.cell? ⟨w.heap.size + 1, 0, none⟩ = some (.int .i64 r.x) ∧ w'.cell? ⟨w.heap.size + 1, 1, none⟩ = some (.int .i64 r.y) ∧ w'.cell? ⟨w.heap.size + 1, 2, none⟩ = some (.int .i64 r.cell) ∧ w'.cell? ⟨w.heap.size + 1, 3, none⟩ = some (.int .i64 r.rows) ∧ w'.cell? ⟨w.heap.size + 1, 4, none⟩ = some (.int .i64 r.cols) ∧ w'.cell? ⟨w.heap.size + 1, 5, none⟩ = some (.slice (some ⟨b, off, none⟩) r.ds.length cap) from fun w' hb => HR2.out.below hs2 (HXW.out.trans (hb.mono (by omega))))
          go_wp2_with fail
          go_cut [12, 13] from 29 to 36 (fun A B wx => ∃ B12 B13, A = .pointer (some ⟨B12, 0, none⟩) ∧ B = .pointer (some ⟨B13, 0, none⟩) ∧ TrkBlk wx w.heap.size t ∧ (wx.cell? ⟨B12, 0, none⟩ = some (.int .i64 (pxP r m)) ∧ wx.cell? ⟨B12, 1, none⟩ = some (.int .i64 (pyP r row)) ∧ wx.cell? ⟨B12, 2, none⟩ = some (.int .i64 (hgP r fi row m))) ∧ (wx.cell? ⟨B13, 0, none⟩ = some (.int .i64 (pxP r k)) ∧ wx.cell? ⟨B13, 1, none⟩ = some (.int .i64 (pyP r row)) ∧ wx.cell? ⟨B13, 2, none⟩ = some (.int .i64 (hgP r fi row k))) ∧ Below wr.heap.size wr wx ∧ B12 < wx.heap.size ∧ B13 < wx.heap.size)
          case first =>
            go_region_held3 (fun w' => w'.cell? ⟨w.heap.size + 1, 0, none⟩ = some (.int .i64 r.x) ∧ w'.cell? ⟨w.heap.size + 1, 1, none⟩ = some (.int .i64 r.y) ∧ w'.cell? ⟨w.heap.size + 1, 2, none⟩ = some (.int .i64 r.cell) ∧ w'.cell? ⟨w.heap.size + 1, 3, none⟩ = some (.int .i64 r.rows) ∧ w'.cell? ⟨w.heap.size + 1, 4, none⟩ = some (.int .i64 r.cols) ∧ w'.cell? ⟨w.heap.size + 1, 5, none⟩ = some (.slice (some ⟨b, off, none⟩) r.ds.length cap)) (exact HRC.out _ (by (repeat' (first | with_reducible exact Below.refl _ _ | (with_reducible refine below_later_of ?_ ?_ _) | (with_reducible refine Below.alloc ?_ ?_ _) | (with_reducible refine Below.setCell ?_ ?_ _) | (with_reducible refine Below.drew ?_) | (simp; done) | (simp; omega) | omega)))) (first | (go_at_call 75; refine (HPT.out _ _ (by omega) (by (repeat' (first | with_reducible exact Below.refl _ _ | (with_reducible refine below_later_of ?_ ?_ _) | (with_reducible refine Below.alloc ?_ ?_ _) | (with_reducible refine Below.setCell ?_ ?_ _) | (with_reducible refine Below.drew ?_) | (simp; done) | (simp; omega) | omega)))).mono ?_; rintro e w' ⟨rfl, hb⟩; obtain ⟨pp, rfl⟩ := later_of_below hb; clear hb))
            all_goals
              go_wp2_with fail
              go_meet
              refine ⟨_, _, rfl, rfl, HTB.out.below (C := wr.heap.size) (by omega) (by (repeat' (first | with_reducible exact Below.refl _ _ | (with_reducible refine below_later_of ?_ ?_ _) | (with_reducible refine Below.alloc ?_ ?_ _) | (with_reducible refine Below.setCell ?_ ?_ _) | (with_reducible refine Below.drew ?_) | (simp; done) | (simp; omega) | omega))), ⟨?_, ?_, ?_⟩, ⟨?_, ?_, ?_⟩, (by (repeat' (first | with_reducible exact Below.refl _ _ | (with_reducible refine below_later_of ?_ ?_ _) | (with_reducible refine Below.alloc ?_ ?_ _) | (with_reducible refine Below.setCell ?_ ?_ _) | (with_reducible refine Below.drew ?_) | (simp; done) | (simp; omega) | omega))), by (simp <;> omega), by (simp <;> omega)⟩
              all_goals ((first | (simp [go_sem]; done) | simp [go_sem, ↓IntWalk.iteOmega]); done)
          case rest =>
            obtain ⟨B12, B13, rfl, rfl, ⟨k0, k1, k2, k3, k4, k5, k6, k7, k8⟩, ⟨f0, f1, f2⟩, ⟨g0, g1, g2⟩, hb9, hs12, hs13⟩ := hcut
            clear hbr
            have hszc := hb9.size
            cases ov <;> cases sh
            all_goals (go_wp2_with (first | (go_at_call 107; (with_reducible refine (rCovers t _ _ _ _ _ _ _ OT.out XM.out ZM.out XK.out ZK.out HL.out).mono ?_); rintro e w' ⟨rfl, hb⟩; obtain ⟨pp, rfl⟩ := later_of_below hb; clear hb) | (go_at_call 108; (with_reducible refine (rShades t _ _ _ _ _ _ _ OT.out XM.out ZM.out XK.out ZK.out HD.out).mono ?_); rintro e w' ⟨rfl, hb⟩; obtain ⟨pp, rfl⟩ := later_of_below hb; clear hb)))
            all_goals (go_roundw; (case rel => exact ⟨m + 1, by omega, by go_num, by rw [HSO.out]; rfl, by rw [HSS.out]; rfl, HXI.out.trans (below_mono_of hszi (hb9.trans (below_mono_of hb9.size (by (repeat' (first | with_reducible exact Below.refl _ _ | (with_reducible refine below_later_of ?_ ?_ _) | (with_reducible refine Below.alloc ?_ ?_ _) | (with_reducible refine Below.setCell ?_ ?_ _) | (with_reducible refine Below.drew ?_) | (simp; done) | (simp; omega) | omega))))))⟩); (case measure => simp [intOf]; omega))
        · obtain rfl : m = n := by omega
          have hdm : decide ((m : Int) < r.cols) = false := by simp; omega
          generalize anyOver t r fi row k m = ov at HKK ⊢
          generalize anyShadow t r fi row k m = sh at HKK ⊢
          have HO := Lib.hid (ownsRow_below HO0.out HXI.out)
          have hszw : W2.heap.size ≤ wr.heap.size := by omega
          have HSN := Lib.hid (show ∀ kd : Int, kindP t r fi row k = kd → ((List.range (k + 1)).map (kindP t r fi row)).map (Value.int .i64) = ((List.range k).map (kindP t r fi row)).map (Value.int .i64) ++ [.int .i64 kd] from fun kd h => by rw [List.range_succ, List.map_append, List.map_append, List.map_singleton, List.map_singleton, h])
          clear t0 t1 t2 t3 t4 t5 t6 t7 t8
          cases ov <;> cases sh
          · go_wp2_with (first | (at_builtin; refine wpList_append_own _ rfl _ _ 61 rfl W2.heap.size 3 i0 (.int .i64 0) 1 8 Try.underlying61 hi hz0 hz1 hz2 rfl (by decide) _ _ _ rfl (HO.out.alloc _) ⟨wr.heap.size, 0, none⟩ 1 1 [.int .i64 0] (by first | rfl | (simp; rfl)) rfl ?c1 ?c2 ?c3 ?c4 ?c5 ?_))
            (case c1 => exact cells_new _ [_] _); (case c2 => intro u hu; simp at hu; subst hu; rfl); (case c3 => unfold maxLen; omega); (case c4 => omega); (case c5 => simp; omega); intro v' w1 hown' hgrow _
            have HX1 := Lib.hid (show Below W2.heap.size W2 w1 from (HXW.out.trans (show Below W2.heap.size wr _ from below_mono_of hszw (by (repeat' (first | with_reducible exact Below.refl _ _ | (with_reducible refine below_later_of ?_ ?_ _) | (with_reducible refine Below.alloc ?_ ?_ _) | (with_reducible refine Below.setCell ?_ ?_ _) | (with_reducible refine Below.drew ?_) | (simp; done) | (simp; omega) | omega))))).grown hgrow (by simp; omega) (fun g hg => (HO.out.lt g hg).1))
            have HO1 := Lib.hid hown'
            clear hown' hgrow
            go_wp2; go_roundw; (case rel => exact ⟨k + 1, by omega, by go_num, by rw [HSN.out _ HKK.out, List.map_map]; exact HO1.out, HX1.out⟩); (case measure => simp [intOf]; omega)
          · go_wp2_with (first | (at_builtin; refine wpList_append_own _ rfl _ _ 61 rfl W2.heap.size 3 i0 (.int .i64 0) 1 8 Try.underlying61 hi hz0 hz1 hz2 rfl (by decide) _ _ _ rfl (HO.out.alloc _) ⟨wr.heap.size, 0, none⟩ 1 1 [.int .i64 2] (by first | rfl | (simp; rfl)) rfl ?c1 ?c2 ?c3 ?c4 ?c5 ?_))
            (case c1 => exact cells_new _ [_] _); (case c2 => intro u hu; simp at hu; subst hu; rfl); (case c3 => unfold maxLen; omega); (case c4 => omega); (case c5 => simp; omega); intro v' w1 hown' hgrow _
            have HX1 := Lib.hid (show Below W2.heap.size W2 w1 from (HXW.out.trans (show Below W2.heap.size wr _ from below_mono_of hszw (by (repeat' (first | with_reducible exact Below.refl _ _ | (with_reducible refine below_later_of ?_ ?_ _) | (with_reducible refine Below.alloc ?_ ?_ _) | (with_reducible refine Below.setCell ?_ ?_ _) | (with_reducible refine Below.drew ?_) | (simp; done) | (simp; omega) | omega))))).grown hgrow (by simp; omega) (fun g hg => (HO.out.lt g hg).1))
            have HO1 := Lib.hid hown'
            clear hown' hgrow
            go_wp2; go_roundw; (case rel => exact ⟨k + 1, by omega, by go_num, by rw [HSN.out _ HKK.out, List.map_map]; exact HO1.out, HX1.out⟩); (case measure => simp [intOf]; omega)
          · go_wp2_with (first | (at_builtin; refine wpList_append_own _ rfl _ _ 61 rfl W2.heap.size 3 i0 (.int .i64 0) 1 8 Try.underlying61 hi hz0 hz1 hz2 rfl (by decide) _ _ _ rfl (HO.out.alloc _) ⟨wr.heap.size, 0, none⟩ 1 1 [.int .i64 1] (by first | rfl | (simp; rfl)) rfl ?c1 ?c2 ?c3 ?c4 ?c5 ?_))
            (case c1 => exact cells_new _ [_] _); (case c2 => intro u hu; simp at hu; subst hu; rfl); (case c3 => unfold maxLen; omega); (case c4 => omega); (case c5 => simp; omega); intro v' w1 hown' hgrow _
            have HX1 := Lib.hid (show Below W2.heap.size W2 w1 from (HXW.out.trans (show Below W2.heap.size wr _ from below_mono_of hszw (by (repeat' (first | with_reducible exact Below.refl _ _ | (with_reducible refine below_later_of ?_ ?_ _) | (with_reducible refine Below.alloc ?_ ?_ _) | (with_reducible refine Below.setCell ?_ ?_ _) | (with_reducible refine Below.drew ?_) | (simp; done) | (simp; omega) | omega))))).grown hgrow (by simp; omega) (fun g hg => (HO.out.lt g hg).1))
            have HO1 := Lib.hid hown'
            clear hown' hgrow
            go_wp2; go_roundw; (case rel => exact ⟨k + 1, by omega, by go_num, by rw [HSN.out _ HKK.out, List.map_map]; exact HO1.out, HX1.out⟩); (case measure => simp [intOf]; omega)
          · go_wp2_with (first | (at_builtin; refine wpList_append_own _ rfl _ _ 61 rfl W2.heap.size 3 i0 (.int .i64 0) 1 8 Try.underlying61 hi hz0 hz1 hz2 rfl (by decide) _ _ _ rfl (HO.out.alloc _) ⟨wr.heap.size, 0, none⟩ 1 1 [.int .i64 3] (by first | rfl | (simp; rfl)) rfl ?c1 ?c2 ?c3 ?c4 ?c5 ?_))
            (case c1 => exact cells_new _ [_] _); (case c2 => intro u hu; simp at hu; subst hu; rfl); (case c3 => unfold maxLen; omega); (case c4 => omega); (case c5 => simp; omega); intro v' w1 hown' hgrow _
            have HX1 := Lib.hid (show Below W2.heap.size W2 w1 from (HXW.out.trans (show Below W2.heap.size wr _ from below_mono_of hszw (by (repeat' (first | with_reducible exact Below.refl _ _ | (with_reducible refine below_later_of ?_ ?_ _) | (with_reducible refine Below.alloc ?_ ?_ _) | (with_reducible refine Below.setCell ?_ ?_ _) | (with_reducible refine Below.drew ?_) | (simp; done) | (simp; omega) | omega))))).grown hgrow (by simp; omega) (fun g hg => (HO.out.lt g hg).1))
            have HO1 := Lib.hid hown'
            clear hown' hgrow
            go_wp2; go_roundw; (case rel => exact ⟨k + 1, by omega, by go_num, by rw [HSN.out _ HKK.out, List.map_map]; exact HO1.out, HX1.out⟩); (case measure => simp [intOf]; omega)
    · obtain rfl : k = n := by omega
      have hdl : decide ((k : Int) < r.cols) = false := by simp; omega
      go_wp2
      go_ret
      exact ⟨_, rfl, by rw [HN.out, HKS.out]; exact ownsRow_mono HO0.out (by omega), (show Below w.heap.size w _ from HB2.out.trans (HX.out.mono (by omega)))⟩
end Go.Proofs.Ytokpdmlmlkkekaa
