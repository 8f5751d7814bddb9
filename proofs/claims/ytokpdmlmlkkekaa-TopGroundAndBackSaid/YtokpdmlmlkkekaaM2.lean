/- Masks: the reference's view error. -/
import Derived.Test.YtokpdmlmlkkekaaM1
import Derived.Test.YtokpdmlmlkkekaaZK
namespace Go.Proofs.Ytokpdmlmlkkekaa
set_option linter.unusedVariables false
open Go.RowKit
/-- Blocks that hold a track; a relief. -/
def TrkBlk (w : World) (B : Nat) (t : Trk) : Prop := w.cell? ⟨B, 0, none⟩ = some (.int .i64 t.sx) ∧ w.cell? ⟨B, 1, none⟩ = some (.int .i64 t.sy) ∧ w.cell? ⟨B, 2, none⟩ = some (.int .i64 t.sz) ∧ w.cell? ⟨B, 3, none⟩ = some (.int .i64 t.step) ∧ w.cell? ⟨B, 4, none⟩ = some (.int .i64 t.lines) ∧ w.cell? ⟨B, 5, none⟩ = some (.int .i64 t.near) ∧ w.cell? ⟨B, 6, none⟩ = some (.int .i64 t.bin) ∧ w.cell? ⟨B, 7, none⟩ = some (.int .i64 t.bins) ∧ w.cell? ⟨B, 8, none⟩ = some (.bool t.east)
theorem TrkBlk.below {w w' : World} {B C : Nat} {t : Trk} (h : TrkBlk w B t) (hB : B < C) (hw : Below C w w') : TrkBlk w' B t := by
  obtain ⟨h0, h1, h2, h3, h4, h5, h6, h7, h8⟩ := h
  exact ⟨(hw.cell hB).trans h0, (hw.cell hB).trans h1, (hw.cell hB).trans h2, (hw.cell hB).trans h3, (hw.cell hB).trans h4, (hw.cell hB).trans h5, (hw.cell hB).trans h6, (hw.cell hB).trans h7, (hw.cell hB).trans h8⟩
def ReliefBlk (w : World) (B : Nat) (r : Rel) (a : Option Addr) (cap : Nat) : Prop := w.cell? ⟨B, 0, none⟩ = some (.int .i64 r.x) ∧ w.cell? ⟨B, 1, none⟩ = some (.int .i64 r.y) ∧ w.cell? ⟨B, 2, none⟩ = some (.int .i64 r.cell) ∧ w.cell? ⟨B, 3, none⟩ = some (.int .i64 r.rows) ∧ w.cell? ⟨B, 4, none⟩ = some (.int .i64 r.cols) ∧ w.cell? ⟨B, 5, none⟩ = some (.slice a r.ds.length cap)
theorem ReliefBlk.below {w w' : World} {B C : Nat} {r : Rel} {a : Option Addr} {cap : Nat} (h : ReliefBlk w B r a cap) (hB : B < C) (hw : Below C w w') : ReliefBlk w' B r a cap := by
  obtain ⟨h0, h1, h2, h3, h4, h5⟩ := h
  exact ⟨(hw.cell hB).trans h0, (hw.cell hB).trans h1, (hw.cell hB).trans h2, (hw.cell hB).trans h3, (hw.cell hB).trans h4, (hw.cell hB).trans h5⟩
theorem trkBlk_alloc (w : World) (t : Trk) (T : TypeId) : TrkBlk (w.alloc (.cells #[.int .i64 t.sx, .int .i64 t.sy, .int .i64 t.sz, .int .i64 t.step, .int .i64 t.lines, .int .i64 t.near, .int .i64 t.bin, .int .i64 t.bins, .bool t.east] T)) w.heap.size t :=
  ⟨World.cell?_alloc_new _ _ _ _, World.cell?_alloc_new _ _ _ _, World.cell?_alloc_new _ _ _ _, World.cell?_alloc_new _ _ _ _, World.cell?_alloc_new _ _ _ _, World.cell?_alloc_new _ _ _ _, World.cell?_alloc_new _ _ _ _, World.cell?_alloc_new _ _ _ _, World.cell?_alloc_new _ _ _ _⟩
theorem reliefBlk_alloc (w : World) (r : Rel) (a : Option Addr) (cap : Nat) (T : TypeId) : ReliefBlk (w.alloc (.cells #[.int .i64 r.x, .int .i64 r.y, .int .i64 r.cell, .int .i64 r.rows, .int .i64 r.cols, .slice a r.ds.length cap] T)) w.heap.size r a cap :=
  ⟨World.cell?_alloc_new _ _ _ _, World.cell?_alloc_new _ _ _ _, World.cell?_alloc_new _ _ _ _, World.cell?_alloc_new _ _ _ _, World.cell?_alloc_new _ _ _ _, World.cell?_alloc_new _ _ _ _⟩
def deepE (t : Trk) (r : Rel) (fi : Nat → Int) (k : Nat) : Int := if deepUpto t r fi k then 0 else 26
theorem deepE_succ (t : Trk) (r : Rel) (fi : Nat → Int) (k : Nat) : deepE t r fi (k + 1) = if 1 ≤ depK t r fi k then deepE t r fi k else 26 := by
  unfold deepE
  rw [deepUpto_succ]
  by_cases h : 1 ≤ depK t r fi k <;> simp [h]
theorem grid_len {r : Rel} (o : r.Ok) {nr nc : Nat} (hnr : r.rows = nr) (hnc : r.cols = nc) : nr * nc = r.ds.length := by
  have := o.len
  rw [hnr, hnc, ← Int.natCast_mul] at this
  exact (Int.ofNat_inj.1 this).symm
theorem offK_at (t : Trk) (r : Rel) {nc i j : Nat} (hnc : r.cols = nc) (hj : j < nc) : offK t r (i * nc + j) = offP t (pxP r j) := by
  unfold offK soP
  rw [show r.cols.toNat = nc by omega, Nat.mul_comm i nc, Nat.mul_add_mod, Nat.mod_eq_of_lt hj]
theorem depK_at (t : Trk) (r : Rel) (fi : Nat → Int) {nc i j : Nat} (hnc : r.cols = nc) (hj : j < nc) : depK t r fi (i * nc + j) = depthP t (fi (bitAt r.ds (idxP r i j))) := by
  unfold depK sdP
  rw [show r.cols.toNat = nc by omega, Nat.mul_comm i nc, Nat.mul_add_mod, Nat.mod_eq_of_lt hj, Nat.mul_add_div (by omega), Nat.div_eq_of_lt hj, Nat.add_zero]
set_option maxRecDepth 20000 in
set_option maxHeartbeats 4000000 in
theorem rViewErr (fe : Nat → Int) (t : Trk) (r : Rel) (fi : Nat → Int) (b off cap : Nat) (w : World) (ht : checkTrackP t = 0) (hr : relErrP fe r = 0) (hf : FlInts fi r.ds) (hbw : b < w.heap.size) (hc : FloatsAt w b off r.ds) {e0 : Int} (he : viewErrP fe fi t r = e0) :
    Calls Try.prog 73 #[.agg #[.int .i64 t.sx, .int .i64 t.sy, .int .i64 t.sz, .int .i64 t.step, .int .i64 t.lines, .int .i64 t.near, .int .i64 t.bin, .int .i64 t.bins, .bool t.east], .agg #[.int .i64 r.x, .int .i64 r.y, .int .i64 r.cell, .int .i64 r.rows, .int .i64 r.cols, .slice (some ⟨b, off, none⟩) r.ds.length cap]] w fun e w' => e = .returned (.int .i64 e0) ∧ Below w.heap.size w w' := by
  subst he
  have ot := checkTrackP_ok ht
  have o := (relErrP_ok hr).1
  have h00 : first2 (checkTrackP t) (relErrP fe r) = 0 := by unfold first2; rw [ht, hr]; rfl
  have HQ1 := Lib.hid (show BadOff t r → viewErrP fe fi t r = 15 from fun hb => by unfold viewErrP; rw [if_pos h00, if_pos hb])
  have HQ2 := Lib.hid (show ¬ BadOff t r → viewErrP fe fi t r = deepE t r fi r.ds.length from fun hb => by unfold viewErrP; rw [if_pos h00, if_neg hb]; rfl)
  have HFI := Lib.hid hf
  have HFC := Lib.hid hc
  have O := Lib.hid o
  obtain ⟨nr, hnr⟩ : ∃ nr : Nat, r.rows = nr := ⟨r.rows.toNat, by have := o.r1; omega⟩
  obtain ⟨nc, hnc⟩ : ∃ nc : Nat, r.cols = nc := ⟨r.cols.toNat, by have := o.l1; omega⟩
  have hlen := grid_len o hnr hnc
  have HLEN := Lib.hid hlen
  have HOK := Lib.hid (fun i j (hj : j < nc) => offK_at t r (i := i) hnc hj)
  have HDK := Lib.hid (fun i j (hj : j < nc) => depK_at t r fi (i := i) hnc hj)
  have HDS := Lib.hid (fun k => deepE_succ t r fi k)
  have HD0 := Lib.hid (show deepE t r fi 0 = 0 from rfl)
  obtain ⟨sx1, sx2, -, -, sz1, sz2, -, -, -, -, -, -, -, -, -, -, -⟩ := ot
  obtain ⟨rx1, rx2, -, -, c1, c2, r1, r2, l1, l2, -⟩ := o
  have hnr1 : (nr : Int) = r.rows := hnr.symm
  have hnc1 : (nc : Int) = r.cols := hnc.symm
  have HNR := Lib.hid hnr1
  have HNC := Lib.hid hnc1
  clear ht hr hf hc h00 hlen hnr hnc
  have a1 : (nr : Int) ≤ r.rows := by omega
  have a2 : r.rows ≤ (nr : Int) := by omega
  have a3 : (nc : Int) ≤ r.cols := by omega
  have a4 : r.cols ≤ (nc : Int) := by omega
  clear hnr1 hnc1
  go_enter Try.func73, Try.ntmps73
  go_wp2
  obtain ⟨W2, hW2, hT2, hR2, hB2, hs2⟩ : ∃ W2, (w.alloc (.cells #[.int .i64 t.sx, .int .i64 t.sy, .int .i64 t.sz, .int .i64 t.step, .int .i64 t.lines, .int .i64 t.near, .int .i64 t.bin, .int .i64 t.bins, .bool t.east] 25)).alloc (.cells #[.int .i64 r.x, .int .i64 r.y, .int .i64 r.cell, .int .i64 r.rows, .int .i64 r.cols, .slice (some ⟨b, off, none⟩) r.ds.length cap] 59) = W2 ∧ TrkBlk W2 w.heap.size t ∧ ReliefBlk W2 (w.heap.size + 1) r (some ⟨b, off, none⟩) cap ∧ Below w.heap.size w W2 ∧ w.heap.size + 1 < W2.heap.size :=
    ⟨_, rfl, (trkBlk_alloc w t _).below (C := w.heap.size + 1) (by omega) ((Below.refl _ _).alloc (by simp) _), by have := reliefBlk_alloc (w.alloc (.cells #[.int .i64 t.sx, .int .i64 t.sy, .int .i64 t.sz, .int .i64 t.step, .int .i64 t.lines, .int .i64 t.near, .int .i64 t.bin, .int .i64 t.bins, .bool t.east] 25)) r (some ⟨b, off, none⟩) cap 59; simpa using this, (by (repeat' (first | with_reducible exact Below.refl _ _ | (with_reducible refine below_later_of ?_ ?_ _) | (with_reducible refine Below.alloc ?_ ?_ _) | (with_reducible refine Below.setCell ?_ ?_ _) | (with_reducible refine Below.drew ?_) | (simp; done) | (simp; omega) | omega))), by simp⟩
  rw [hW2]
  have HT2 := Lib.hid hT2
  have HR2 := Lib.hid hR2
  have HB2 := Lib.hid hB2
  clear hW2 hT2 hR2 hB2
  go_loopw [5, 6] (fun e i wr => ∃ n : Nat, n ≤ nr ∧ i = .int .i64 n ∧ e = .int .i64 (deepE t r fi (n * nc)) ∧ Below W2.heap.size W2 wr ∧ ∀ j, j < n * nc → 0 < offK t r j) (fun _ i _ => nr - (intOf i).toNat)
  case atStart => exact ⟨0, Nat.zero_le _, rfl, by rw [Nat.zero_mul, HD0.out], Below.refl _ _, fun j hj => by rw [Nat.zero_mul] at hj; omega⟩
  case round =>
    obtain ⟨n, hn, rfl, rfl, hnx, hoff⟩ := hrel
    obtain ⟨wo, hwo⟩ : ∃ wo : World, wo = wr := ⟨_, rfl⟩
    subst hwo
    have HX := Lib.hid hnx
    have HOF := Lib.hid hoff
    obtain ⟨q0, q1, q2, q3, q4, q5⟩ := HR2.out.below hs2 hnx
    have hszo := hnx.size
    clear hnx hoff
    by_cases hlt : n < nr
    · have hdl : decide ((n : Int) < r.rows) = true := by simp; omega
      go_wp2
      clear q0 q1 q2 q3 q4 q5
      go_loopw [5, 7] (fun e k wr => ∃ m : Nat, m ≤ nc ∧ k = .int .i64 m ∧ e = .int .i64 (deepE t r fi (n * nc + m)) ∧ Below W2.heap.size W2 wr ∧ ∀ j, j < n * nc + m → 0 < offK t r j) (fun _ k _ => nc - (intOf k).toNat)
      case atStart => exact ⟨0, Nat.zero_le _, rfl, rfl, HX.out, HOF.out⟩
      case round =>
        obtain ⟨m, hm, rfl, rfl, hnx, hoff⟩ := hrel
        have HXI := Lib.hid hnx
        have HOI := Lib.hid hoff
        obtain ⟨q0, q1, q2, q3, q4, q5⟩ := HR2.out.below hs2 hnx
        obtain ⟨t0, t1, t2, t3, t4, t5, t6, t7, t8⟩ := HT2.out.below (show w.heap.size < W2.heap.size by omega) hnx
        have hszi := hnx.size
        have HFW := Lib.hid (HFC.out.below hbw (HB2.out.trans (hnx.mono (by omega))))
        have hbr : b < wr.heap.size := by omega
        clear hnx hoff
        by_cases hlm : m < nc
        · have hdm : decide ((m : Int) < r.cols) = true := by simp; omega
          obtain ⟨_, _, _, hil⟩ := idx_lt O.out (Int.natCast_nonneg n) (show (n : Int) < r.rows by omega) (Int.natCast_nonneg m) (show (m : Int) < r.cols by omega)
          obtain ⟨hi1, hi2, hi3⟩ := HFI.out _ hil
          have HOK2 := Lib.hid (HOK.out n m hlm)
          have HDK2 := Lib.hid (HDK.out n m hlm)
          have HDS2 := Lib.hid (HDS.out (n * nc + m))
          obtain ⟨u1, u2⟩ := cell_bd O.out (Int.natCast_nonneg m) (show (m : Int) ≤ 64 by omega)
          have hp : -100000000 ≤ pxP r m ∧ pxP r m ≤ 100065000 := by unfold pxP; omega
          obtain ⟨hp1, hp2⟩ := hp
          have hbad : offP t (pxP r m) < 1 → BadOff t r := fun h => ⟨n * nc + m, by
            rw [← HLEN.out]
            have : (n + 1) * nc ≤ nr * nc := Nat.mul_le_mul_right _ hlt
            rw [Nat.add_mul, Nat.one_mul] at this; omega, by rw [HOK2.out]; omega⟩
          have HBAD := Lib.hid hbad
          clear hbad
          generalize deepE t r fi (n * nc + m) = de at HDS2
          generalize fi (bitAt r.ds (idxP r n m)) = h at hi1 hi2 hi3 HDK2
          have HI := Lib.hid hi1
          clear hi1 hil
          by_cases ho : offP t (pxP r m) < 1
          · have HF := Lib.hid (show viewErrP fe fi t r = 15 from HQ1.out (HBAD.out ho))
            go_wp2_with (first | (go_at_call 75; refine (rPoint r b off cap _ _ h _ O.out (by omega) (by omega) (by omega) (by omega) (by first | omega | (simp; omega)) (HFW.out.below hbr (by (repeat' (first | with_reducible exact Below.refl _ _ | (with_reducible refine below_later_of ?_ ?_ _) | (with_reducible refine Below.alloc ?_ ?_ _) | (with_reducible refine Below.setCell ?_ ?_ _) | (with_reducible refine Below.drew ?_) | (simp; done) | (simp; omega) | omega)))) HI.out).mono ?_; rintro e w' ⟨rfl, hb⟩; obtain ⟨pp, rfl⟩ := later_of_below hb; clear hb) | (go_at_call 98; refine (rOff t _ _ (by omega) (by omega) (by omega) (by omega)).mono ?_; rintro e w' ⟨rfl, hb⟩; obtain ⟨pp, rfl⟩ := later_of_below hb; clear hb) | (go_at_call 86; refine (rDepth t _ _ (by omega) (by omega) (by omega) (by omega)).mono ?_; rintro e w' ⟨rfl, hb⟩; obtain ⟨pp, rfl⟩ := later_of_below hb; clear hb))
            go_ret
            exact ⟨ret_int HF.out.symm, HB2.out.trans ((HXI.out.trans (below_mono_of hszi (by (repeat' (first | with_reducible exact Below.refl _ _ | (with_reducible refine below_later_of ?_ ?_ _) | (with_reducible refine Below.alloc ?_ ?_ _) | (with_reducible refine Below.setCell ?_ ?_ _) | (with_reducible refine Below.drew ?_) | (simp; done) | (simp; omega) | omega))))).mono (by omega))⟩
          · have HO1 := Lib.hid (show 0 < offP t (pxP r m) by omega)
            by_cases hd : depthP t h < 1
            · have HDE := Lib.hid (show deepE t r fi (n * nc + (m + 1)) = 26 by rw [← Nat.add_assoc, HDS2.out, HDK2.out, if_neg (by omega)])
              go_wp2_with (first | (go_at_call 75; refine (rPoint r b off cap _ _ h _ O.out (by omega) (by omega) (by omega) (by omega) (by first | omega | (simp; omega)) (HFW.out.below hbr (by (repeat' (first | with_reducible exact Below.refl _ _ | (with_reducible refine below_later_of ?_ ?_ _) | (with_reducible refine Below.alloc ?_ ?_ _) | (with_reducible refine Below.setCell ?_ ?_ _) | (with_reducible refine Below.drew ?_) | (simp; done) | (simp; omega) | omega)))) HI.out).mono ?_; rintro e w' ⟨rfl, hb⟩; obtain ⟨pp, rfl⟩ := later_of_below hb; clear hb) | (go_at_call 98; refine (rOff t _ _ (by omega) (by omega) (by omega) (by omega)).mono ?_; rintro e w' ⟨rfl, hb⟩; obtain ⟨pp, rfl⟩ := later_of_below hb; clear hb) | (go_at_call 86; refine (rDepth t _ _ (by omega) (by omega) (by omega) (by omega)).mono ?_; rintro e w' ⟨rfl, hb⟩; obtain ⟨pp, rfl⟩ := later_of_below hb; clear hb))
              go_roundw
              case rel => exact ⟨m + 1, by omega, by go_num, by rw [HDE.out], HXI.out.trans (below_mono_of hszi (by (repeat' (first | with_reducible exact Below.refl _ _ | (with_reducible refine below_later_of ?_ ?_ _) | (with_reducible refine Below.alloc ?_ ?_ _) | (with_reducible refine Below.setCell ?_ ?_ _) | (with_reducible refine Below.drew ?_) | (simp; done) | (simp; omega) | omega)))), fun j hj => if e : j = n * nc + m then (by rw [e, HOK2.out]; exact HO1.out) else HOI.out j (by omega)⟩
              case measure => simp [intOf]; omega
            · have HDE := Lib.hid (show deepE t r fi (n * nc + (m + 1)) = de by rw [← Nat.add_assoc, HDS2.out, HDK2.out, if_pos (by omega)])
              go_wp2_with (first | (go_at_call 75; refine (rPoint r b off cap _ _ h _ O.out (by omega) (by omega) (by omega) (by omega) (by first | omega | (simp; omega)) (HFW.out.below hbr (by (repeat' (first | with_reducible exact Below.refl _ _ | (with_reducible refine below_later_of ?_ ?_ _) | (with_reducible refine Below.alloc ?_ ?_ _) | (with_reducible refine Below.setCell ?_ ?_ _) | (with_reducible refine Below.drew ?_) | (simp; done) | (simp; omega) | omega)))) HI.out).mono ?_; rintro e w' ⟨rfl, hb⟩; obtain ⟨pp, rfl⟩ := later_of_below hb; clear hb) | (go_at_call 98; refine (rOff t _ _ (by omega) (by omega) (by omega) (by omega)).mono ?_; rintro e w' ⟨rfl, hb⟩; obtain ⟨pp, rfl⟩ := later_of_below hb; clear hb) | (go_at_call 86; refine (rDepth t _ _ (by omega) (by omega) (by omega) (by omega)).mono ?_; rintro e w' ⟨rfl, hb⟩; obtain ⟨pp, rfl⟩ := later_of_below hb; clear hb))
              go_roundw
              case rel => exact ⟨m + 1, by omega, by go_num, by rw [HDE.out], HXI.out.trans (below_mono_of hszi (by (repeat' (first | with_reducible exact Below.refl _ _ | (with_reducible refine below_later_of ?_ ?_ _) | (with_reducible refine Below.alloc ?_ ?_ _) | (with_reducible refine Below.setCell ?_ ?_ _) | (with_reducible refine Below.drew ?_) | (simp; done) | (simp; omega) | omega)))), fun j hj => if e : j = n * nc + m then (by rw [e, HOK2.out]; exact HO1.out) else HOI.out j (by omega)⟩
              case measure => simp [intOf]; omega
        · obtain rfl : m = nc := by omega
          go_wp2
          go_roundw
          case rel => exact ⟨n + 1, by omega, by go_num, by rw [Nat.add_mul, Nat.one_mul], HXI.out, fun j hj => HOI.out j (by rw [Nat.add_mul, Nat.one_mul] at hj; exact hj)⟩
          case measure => simp [intOf]; omega
    · obtain rfl : n = nr := by omega
      have HF := Lib.hid (show viewErrP fe fi t r = deepE t r fi (n * nc) by
        rw [HLEN.out]
        refine HQ2.out ?_
        rintro ⟨k, h1, h2⟩
        have := HOF.out k (by rw [HLEN.out]; exact h1)
        omega)
      go_wp2
      go_ret
      exact ⟨ret_int HF.out.symm, HB2.out.trans (HX.out.mono (by omega))⟩
end Go.Proofs.Ytokpdmlmlkkekaa
