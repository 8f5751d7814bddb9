/- Counts: the program. -/
import Derived.Test.YtokpdmlmlkkekaaZC
import Derived.Test.YtokpdmlmlkkekaaN2
namespace Go.Proofs.Ytokpdmlmlkkekaa
set_option linter.unusedVariables false
open Go.RowKit
/-- Block B holds four numbers that may be written. -/
def FourBlk (w : World) (B : Nat) (x0 x1 x2 x3 : Int) : Prop := (w.cell? ⟨B, 0, none⟩ = some (.int .i64 x0) ∧ w.cell? ⟨B, 1, none⟩ = some (.int .i64 x1) ∧ w.cell? ⟨B, 2, none⟩ = some (.int .i64 x2) ∧ w.cell? ⟨B, 3, none⟩ = some (.int .i64 x3)) ∧
  w.frozen? ⟨B, 0, none⟩ = false ∧ w.frozen? ⟨B, 1, none⟩ = false ∧ w.frozen? ⟨B, 2, none⟩ = false ∧ w.frozen? ⟨B, 3, none⟩ = false
theorem FourBlk.below {w w' : World} {B C : Nat} {x0 x1 x2 x3 : Int} (h : FourBlk w B x0 x1 x2 x3) (hB : B < C) (hw : Below C w w') : FourBlk w' B x0 x1 x2 x3 := by
  obtain ⟨⟨h0, h1, h2, h3⟩, f0, f1, f2, f3⟩ := h
  exact ⟨⟨(hw.cell hB).trans h0, (hw.cell hB).trans h1, (hw.cell hB).trans h2, (hw.cell hB).trans h3⟩, (hw.frozen hB).trans f0, (hw.frozen hB).trans f1, (hw.frozen hB).trans f2, (hw.frozen hB).trans f3⟩
theorem four_set {w : World} {B : Nat} {x0 x1 x2 x3 y0 y1 y2 y3 : Int} (h : FourBlk w B x0 x1 x2 x3) (j : Nat) (u : Int)
    (h0 : y0 = if j = 0 then u else x0) (h1 : y1 = if j = 1 then u else x1) (h2 : y2 = if j = 2 then u else x2) (h3 : y3 = if j = 3 then u else x3) : FourBlk (w.setCell ⟨B, j, none⟩ (.int .i64 u)) B y0 y1 y2 y3 := by
  obtain ⟨⟨c0, c1, c2, c3⟩, f0, f1, f2, f3⟩ := h
  have hc : ∀ (i : Nat) (x y : Int), w.cell? ⟨B, i, none⟩ = some (.int .i64 x) → y = (if j = i then u else x) → (w.setCell ⟨B, j, none⟩ (.int .i64 u)).cell? ⟨B, i, none⟩ = some (.int .i64 y) := fun i x y hx hy => by
    by_cases e : j = i
    · subst e
      rw [if_pos rfl] at hy
      rw [World.cell?_setCell_same _ _ _ hx, hy]
    · rw [if_neg e] at hy
      rw [World.cell?_setCell_other _ _ _ _ (by intro h; simp at h <;> omega), hx, hy]
  refine ⟨⟨hc 0 _ _ c0 h0, hc 1 _ _ c1 h1, hc 2 _ _ c2 h2, hc 3 _ _ c3 h3⟩, ?_, ?_, ?_, ?_⟩ <;> rw [World.frozen?_setCell] <;> assumption
theorem KindsAt.set_ {w : World} {g B j : Nat} {t : Trk} {r : Rel} {fi : Nat → Int} {row : Int} {n : Nat} (h : KindsAt w g t r fi row n) (hg : g ≠ B) (u : Value) : KindsAt (w.setCell ⟨B, j, none⟩ u) g t r fi row n := fun k hk => by
  rw [World.cell?_setCell_other _ _ _ _ (by intro e; simp at e <;> omega)]
  exact h k hk
theorem kinds_k (t : Trk) (r : Rel) (fi : Nat → Int) (b off cap n : Nat) (row : Int) (w : World) (ot : t.Ok) (o : r.Ok) (hf : FlInts fi r.ds) (a1 : 0 ≤ row) (a2 : row < r.rows) (hbw : b < w.heap.size) (hc : FloatsAt w b off r.ds) (hn : r.cols.toNat = n) :
    Calls Try.prog 102 #[.agg #[.int .i64 t.sx, .int .i64 t.sy, .int .i64 t.sz, .int .i64 t.step, .int .i64 t.lines, .int .i64 t.near, .int .i64 t.bin, .int .i64 t.bins, .bool t.east, .int .i64 r.x, .int .i64 r.y, .int .i64 r.cell, .int .i64 r.rows, .int .i64 r.cols, .slice (some ⟨b, off, none⟩) r.ds.length cap], .int .i64 row] w fun e w' => ∃ g, e = .returned (.slice (some ⟨g, 0, none⟩) n n) ∧ w.heap.size ≤ g ∧ g < w'.heap.size ∧ KindsAt w' g t r fi row n ∧ Below w.heap.size w w' := by
  subst hn
  refine (kinds_any t r fi b off cap row w ot o hf a1 a2 hbw hc).mono ?_
  rintro e w' ⟨g, rfl, ho, hb⟩
  refine ⟨g, rfl, (ho.lt g rfl).1, (ho.lt g rfl).2, fun k hk => ?_, hb⟩
  rw [ho.cellAt k (by omega)]
  unfold kindsP
  simp [hk]
set_option maxRecDepth 20000 in
set_option maxHeartbeats 1000000 in
theorem counts_bad (t : Trk) (r : Rel) (a : Option Addr) (cap : Nat) (w : World) (h : RelAt feB intB w r a) {e0 : Int} (he : viewErrP feB intB t r = e0) (hz : e0 ≠ 0) :
    Calls Try.prog 58 #[.agg #[.int .i64 t.sx, .int .i64 t.sy, .int .i64 t.sz, .int .i64 t.step, .int .i64 t.lines, .int .i64 t.near, .int .i64 t.bin, .int .i64 t.bins, .bool t.east], .agg #[.int .i64 r.x, .int .i64 r.y, .int .i64 r.cell, .int .i64 r.rows, .int .i64 r.cols, .slice a r.ds.length cap]] w fun e w' => e = .returned (.tuple #[.agg #[.int .i64 0, .int .i64 0, .int .i64 0, .int .i64 0], .int .i64 e0]) ∧ Below w.heap.size w w' := by
  have HR := Lib.hid h
  have HE := Lib.hid he
  clear h he
  go_enter Try.func58, Try.ntmps58
  go_wp2_with (first | (go_at_call 101; refine (viewOf_any feB intB t r _ cap _ (HR.out.below (by (repeat' (first | with_reducible exact Below.refl _ _ | (with_reducible refine below_later_of ?_ ?_ _) | (with_reducible refine Below.alloc ?_ ?_ _) | (with_reducible refine Below.setCell ?_ ?_ _) | (with_reducible refine Below.drew ?_) | (simp; done) | (simp; omega) | omega)))) HE.out).mono ?_; rintro e w' ⟨rfl, hb⟩; obtain ⟨p1, rfl⟩ := later_of_below hb; clear hb))
  refine bodyPost_ret ?_ rfl ⟨rfl, (by (repeat' (first | with_reducible exact Below.refl _ _ | (with_reducible refine below_later_of ?_ ?_ _) | (with_reducible refine Below.alloc ?_ ?_ _) | (with_reducible refine Below.setCell ?_ ?_ _) | (with_reducible refine Below.drew ?_) | (simp; done) | (simp; omega) | omega)))⟩
  first | (simp [results, Try.results58, go_sem]; done) | simp [results, Try.results58, go_sem, ↓IntWalk.iteOmega]
set_option maxRecDepth 20000 in
set_option maxHeartbeats 4000000 in
theorem counts_ok (t : Trk) (r : Rel) (a : Option Addr) (cap : Nat) (w : World) (h : RelAt feB intB w r a) (he : viewErrP feB intB t r = 0) :
    Calls Try.prog 58 #[.agg #[.int .i64 t.sx, .int .i64 t.sy, .int .i64 t.sz, .int .i64 t.step, .int .i64 t.lines, .int .i64 t.near, .int .i64 t.bin, .int .i64 t.bins, .bool t.east], .agg #[.int .i64 r.x, .int .i64 r.y, .int .i64 r.cell, .int .i64 r.rows, .int .i64 r.cols, .slice a r.ds.length cap]] w fun e w' => e = .returned (.tuple #[.agg #[.int .i64 (countP t r intB 0), .int .i64 (countP t r intB 1), .int .i64 (countP t r intB 2), .int .i64 (countP t r intB 3)], .int .i64 0]) ∧ Below w.heap.size w w' := by
  have HR := Lib.hid h
  have HE := Lib.hid he
  obtain ⟨h1, h2, -, -⟩ := viewErrP_ok he
  obtain ⟨b, off, rfl, hbw, hfl⟩ := h.pos h2
  have HFI := Lib.hid (h.ints h2)
  have HFL := Lib.hid hfl
  have OT := Lib.hid (checkTrackP_ok h1)
  have o := (relErrP_ok h2).1
  have O := Lib.hid o
  obtain ⟨nr, hnr⟩ : ∃ nr : Nat, r.rows.toNat = nr := ⟨_, rfl⟩
  obtain ⟨nc, hnc⟩ : ∃ nc : Nat, r.cols.toNat = nc := ⟨_, rfl⟩
  have HNC := Lib.hid hnc
  have HCB := Lib.hid (fun c => cntGrid_bd t r intB c (by have := o.l2; omega))
  have HRB := Lib.hid (fun (n : Nat) c => cntRow_bd t r intB (n : Int) c)
  have HGS := Lib.hid (show ∀ (c : Int) (n : Nat), cntGrid t r intB c (n + 1) = cntGrid t r intB c n + cntRow t r intB n c nc from fun c n => by rw [cntGrid, hnc])
  have HCP := Lib.hid (show ∀ c, countP t r intB c = cntGrid t r intB c nr from fun c => by unfold countP; rw [hnr])
  have b1 : (nr : Int) ≤ r.rows := by have := o.r1; omega
  have b2 : r.rows ≤ (nr : Int) := by have := o.r1; omega
  have b3 : nr ≤ 64 := by have := o.r2; omega
  have b4 : nc ≤ 64 := by have := o.l2; omega
  obtain ⟨-, -, -, -, -, -, r1, r2, l1, l2, -⟩ := o
  clear h he h1 h2 hfl hnr hnc
  go_enter Try.func58, Try.ntmps58
  go_wp2_with (first | (go_at_call 101; refine (viewOf_any feB intB t r _ cap _ (HR.out.below (by (repeat' (first | with_reducible exact Below.refl _ _ | (with_reducible refine below_later_of ?_ ?_ _) | (with_reducible refine Below.alloc ?_ ?_ _) | (with_reducible refine Below.setCell ?_ ?_ _) | (with_reducible refine Below.drew ?_) | (simp; done) | (simp; omega) | omega)))) HE.out).mono ?_; rintro e w' ⟨rfl, hb⟩; obtain ⟨p1, rfl⟩ := later_of_below hb; clear hb))
  obtain ⟨B6, hB⟩ : ∃ B6, B6 = w.heap.size + 1 + 1 + 1 + p1.os.size := ⟨_, rfl⟩
  have hsz1 : w.heap.size + 1 + 1 < B6 := by rw [hB]; omega
  refine wp_world (fun W => ViewAt W B6 t r b off cap ∧ FourBlk W (B6 + 1) 0 0 0 0 ∧ FourBlk W (w.heap.size + 1 + 1) 0 0 0 0 ∧ Below w.heap.size w W ∧ B6 + 1 < W.heap.size) ⟨by rw [hB]; exact ⟨(by (first | (simp [go_sem]; done) | simp [go_sem, ↓IntWalk.iteOmega])), (by (first | (simp [go_sem]; done) | simp [go_sem, ↓IntWalk.iteOmega])), (by (first | (simp [go_sem]; done) | simp [go_sem, ↓IntWalk.iteOmega])), (by (first | (simp [go_sem]; done) | simp [go_sem, ↓IntWalk.iteOmega])), (by (first | (simp [go_sem]; done) | simp [go_sem, ↓IntWalk.iteOmega])), (by (first | (simp [go_sem]; done) | simp [go_sem, ↓IntWalk.iteOmega])), (by (first | (simp [go_sem]; done) | simp [go_sem, ↓IntWalk.iteOmega])), (by (first | (simp [go_sem]; done) | simp [go_sem, ↓IntWalk.iteOmega])), (by (first | (simp [go_sem]; done) | simp [go_sem, ↓IntWalk.iteOmega])), (by (first | (simp [go_sem]; done) | simp [go_sem, ↓IntWalk.iteOmega])), (by (first | (simp [go_sem]; done) | simp [go_sem, ↓IntWalk.iteOmega])), (by (first | (simp [go_sem]; done) | simp [go_sem, ↓IntWalk.iteOmega])), (by (first | (simp [go_sem]; done) | simp [go_sem, ↓IntWalk.iteOmega])), (by (first | (simp [go_sem]; done) | simp [go_sem, ↓IntWalk.iteOmega])), (by (first | (simp [go_sem]; done) | simp [go_sem, ↓IntWalk.iteOmega]))⟩, by rw [hB]; exact ⟨⟨(by (first | (simp [go_sem]; done) | simp [go_sem, ↓IntWalk.iteOmega])), (by (first | (simp [go_sem]; done) | simp [go_sem, ↓IntWalk.iteOmega])), (by (first | (simp [go_sem]; done) | simp [go_sem, ↓IntWalk.iteOmega])), (by (first | (simp [go_sem]; done) | simp [go_sem, ↓IntWalk.iteOmega]))⟩, (by (first | (simp [go_sem]; done) | simp [go_sem, ↓IntWalk.iteOmega])), (by (first | (simp [go_sem]; done) | simp [go_sem, ↓IntWalk.iteOmega])), (by (first | (simp [go_sem]; done) | simp [go_sem, ↓IntWalk.iteOmega])), (by (first | (simp [go_sem]; done) | simp [go_sem, ↓IntWalk.iteOmega]))⟩, ⟨⟨(by (first | (simp [go_sem]; done) | simp [go_sem, ↓IntWalk.iteOmega])), (by (first | (simp [go_sem]; done) | simp [go_sem, ↓IntWalk.iteOmega])), (by (first | (simp [go_sem]; done) | simp [go_sem, ↓IntWalk.iteOmega])), (by (first | (simp [go_sem]; done) | simp [go_sem, ↓IntWalk.iteOmega]))⟩, (by (first | (simp [go_sem]; done) | simp [go_sem, ↓IntWalk.iteOmega])), (by (first | (simp [go_sem]; done) | simp [go_sem, ↓IntWalk.iteOmega])), (by (first | (simp [go_sem]; done) | simp [go_sem, ↓IntWalk.iteOmega])), (by (first | (simp [go_sem]; done) | simp [go_sem, ↓IntWalk.iteOmega]))⟩, (by (repeat' (first | with_reducible exact Below.refl _ _ | (with_reducible refine below_later_of ?_ ?_ _) | (with_reducible refine Below.alloc ?_ ?_ _) | (with_reducible refine Below.setCell ?_ ?_ _) | (with_reducible refine Below.drew ?_) | (simp; done) | (simp; omega) | omega))), by rw [hB]; (simp <;> omega)⟩ ?_
  rintro W2 ⟨vv, cc, rr, hb, hs5⟩
  rw [← hB]
  clear hB
  have HV := Lib.hid vv
  have CC := Lib.hid cc
  have RR := Lib.hid rr
  have HBW := Lib.hid hb
  clear vv cc rr hb
  go_loopw [25] (fun i wr => ∃ n : Nat, n ≤ nr ∧ i = .int .i64 n ∧ FourBlk wr (B6 + 1) (cntGrid t r intB 0 n) (cntGrid t r intB 1 n) (cntGrid t r intB 2 n) (cntGrid t r intB 3 n) ∧ Below (B6 + 1) W2 wr) (fun i _ => nr - (intOf i).toNat)
  case atStart => exact ⟨0, Nat.zero_le _, rfl, CC.out, Below.refl _ _⟩
  case round =>
    obtain ⟨n, hn, rfl, cc, hnx⟩ := hrel
    have CC2 := Lib.hid cc
    have HX := Lib.hid hnx
    have hsz := hnx.size
    obtain ⟨v0, v1, v2, v3, v4, v5, v6, v7, v8, v9, v10, v11, v12, v13, v14⟩ := HV.out.below (show B6 < B6 + 1 by omega) hnx
    by_cases hlt : n < nr
    · have HFW := Lib.hid (HFL.out.below hbw (HBW.out.trans (hnx.mono (by omega))))
      obtain ⟨wo, hwo⟩ : ∃ wo : World, wo = wr := ⟨_, rfl⟩
      subst hwo
      clear cc hnx
      go_wp2_with (first | (go_at_call 102; refine (kinds_k t r intB b off cap nc (n : Int) _ OT.out O.out HFI.out (by omega) (by omega) (by omega) HFW.out HNC.out).mono ?_; rintro e w2 ⟨g, rfl, hg1, hg2, hkd, hb2⟩))
      have hsz2 := hb2.size
      have CC3 := Lib.hid (CC2.out.below (show B6 + 1 < wo.heap.size by omega) hb2)
      have HX3 := Lib.hid (HX.out.trans (hb2.mono (by omega)))
      have HKD := Lib.hid hkd
      clear hb2 hkd v0 v1 v2 v3 v4 v5 v6 v7 v8 v9 v10 v11 v12 v13 v14
      go_wp2
      go_loopw [32] (fun i wr => ∃ k : Nat, k ≤ nc ∧ i = .int .i64 k ∧ FourBlk wr (B6 + 1) (cntGrid t r intB 0 n + cntRow t r intB n 0 k) (cntGrid t r intB 1 n + cntRow t r intB n 1 k) (cntGrid t r intB 2 n + cntRow t r intB n 2 k) (cntGrid t r intB 3 n + cntRow t r intB n 3 k) ∧ KindsAt wr g t r intB n nc ∧ g < wr.heap.size ∧ Below (B6 + 1) W2 wr) (fun i _ => nc - (intOf i).toNat)
      case atStart => exact ⟨0, Nat.zero_le _, rfl, by simp only [cntRow, Int.add_zero]; exact CC3.out, HKD.out, hg2, HX3.out⟩
      case round =>
        obtain ⟨k, hk, rfl, cc, kd, hgr, hnx⟩ := hrel
        by_cases hlk : k < nc
        · have hck := kd k hlk
          have KD := Lib.hid kd
          have HXI := Lib.hid hnx
          have hszi := hnx.size
          have CI := Lib.hid cc
          have ha : ∀ c, cntRow t r intB n c (k + 1) = cntRow t r intB n c k + if kindP t r intB n k = c then 1 else 0 := fun c => rfl
          have hkc := kindP_cases t r intB n k
          obtain ⟨p00, p01⟩ := HCB.out 0 n
          obtain ⟨p10, p11⟩ := HCB.out 1 n
          obtain ⟨p20, p21⟩ := HCB.out 2 n
          obtain ⟨p30, p31⟩ := HCB.out 3 n
          obtain ⟨q00, q01⟩ := HRB.out n 0 k
          obtain ⟨q10, q11⟩ := HRB.out n 1 k
          obtain ⟨q20, q21⟩ := HRB.out n 2 k
          obtain ⟨q30, q31⟩ := HRB.out n 3 k
          obtain ⟨⟨c0, c1, c2, c3⟩, f0, f1, f2, f3⟩ := cc
          have hlb : B6 + 1 < wr.heap.size := by omega
          generalize kindP t r intB n k = kdv at *
          have A0 := ha 0
          have A1 := ha 1
          have A2 := ha 2
          have A3 := ha 3
          generalize cntRow t r intB n 0 k = y0 at *
          generalize cntRow t r intB n 1 k = y1 at *
          generalize cntRow t r intB n 2 k = y2 at *
          generalize cntRow t r intB n 3 k = y3 at *
          generalize cntGrid t r intB 0 n = z0 at *
          generalize cntGrid t r intB 1 n = z1 at *
          generalize cntGrid t r intB 2 n = z2 at *
          generalize cntGrid t r intB 3 n = z3 at *
          have A0 := Lib.hid A0
          have A1 := Lib.hid A1
          have A2 := Lib.hid A2
          have A3 := Lib.hid A3
          clear ha kd hnx
          rcases hkc with rfl | rfl | rfl | rfl
          all_goals go_wp2
          all_goals go_roundw
          case rel => exact ⟨k + 1, by omega, by go_num, four_set CI.out _ _ (by rw [A0.out]; simp <;> omega) (by rw [A1.out]; simp <;> omega) (by rw [A2.out]; simp <;> omega) (by rw [A3.out]; simp <;> omega), KD.out.set_ (by omega) _, by simpa using hgr, HXI.out.setCell (Nat.le_refl _) _⟩
          case measure => simp [intOf]; omega
          case rel => exact ⟨k + 1, by omega, by go_num, four_set CI.out _ _ (by rw [A0.out]; simp <;> omega) (by rw [A1.out]; simp <;> omega) (by rw [A2.out]; simp <;> omega) (by rw [A3.out]; simp <;> omega), KD.out.set_ (by omega) _, by simpa using hgr, HXI.out.setCell (Nat.le_refl _) _⟩
          case measure => simp [intOf]; omega
          case rel => exact ⟨k + 1, by omega, by go_num, four_set CI.out _ _ (by rw [A0.out]; simp <;> omega) (by rw [A1.out]; simp <;> omega) (by rw [A2.out]; simp <;> omega) (by rw [A3.out]; simp <;> omega), KD.out.set_ (by omega) _, by simpa using hgr, HXI.out.setCell (Nat.le_refl _) _⟩
          case measure => simp [intOf]; omega
          case rel => exact ⟨k + 1, by omega, by go_num, four_set CI.out _ _ (by rw [A0.out]; simp <;> omega) (by rw [A1.out]; simp <;> omega) (by rw [A2.out]; simp <;> omega) (by rw [A3.out]; simp <;> omega), KD.out.set_ (by omega) _, by simpa using hgr, HXI.out.setCell (Nat.le_refl _) _⟩
          case measure => simp [intOf]; omega
        · obtain rfl : k = nc := by omega
          have CI := Lib.hid cc
          have HXI := Lib.hid hnx
          clear cc kd hnx
          go_wp2
          go_roundw
          case rel => exact ⟨n + 1, by omega, by go_num, by rw [HGS.out, HGS.out, HGS.out, HGS.out]; exact CI.out, HXI.out⟩
          case measure => simp [intOf]; omega
    · obtain rfl : n = nr := by omega
      have hge : decide ((n : Int) < r.rows) = false := by simp; omega
      obtain ⟨⟨q0, q1, q2, q3⟩, g0, g1, g2, g3⟩ := RR.out.below (show w.heap.size + 1 + 1 < B6 + 1 by omega) hnx
      obtain ⟨⟨c0, c1, c2, c3⟩, -, -, -, -⟩ := cc
      have HBE := Lib.hid (show Below w.heap.size w wr from HBW.out.trans (hnx.mono (by omega)))
      have hlb : B6 + 1 < wr.heap.size := by omega
      rw [← HCP.out] at c0 c1 c2 c3
      clear hnx v0 v1 v2 v3 v4 v5 v6 v7 v8 v9 v10 v11 v12 v13 v14
      go_wp2
      refine bodyPost_ret ?_ rfl ⟨rfl, (((HBE.out.setCell (show w.heap.size ≤ w.heap.size + 1 + 1 by omega) _).setCell (show w.heap.size ≤ w.heap.size + 1 + 1 by omega) _).setCell (show w.heap.size ≤ w.heap.size + 1 + 1 by omega) _).setCell (show w.heap.size ≤ w.heap.size + 1 + 1 by omega) _⟩
      (first | (simp [results, Try.results58, go_sem, q0, q1, q2, q3]; done) | simp [results, Try.results58, go_sem, q0, q1, q2, q3, ↓IntWalk.iteOmega])
end Go.Proofs.Ytokpdmlmlkkekaa
