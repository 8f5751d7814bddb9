/- The kinds of the cells of a row. -/
import Derived.Test.YthnfepfbkmafaaaK4
namespace Go.Proofs.Ythnfepfbkmafaaa
set_option linter.unusedVariables false
open Go.RowKit
def anyOver (t : Trk) (r : Rel) (fi : Nat → Int) (row : Int) (k m : Nat) : Bool := (List.range m).any fun j => liesP (soP t r j) (sdP t r fi row j) (soP t r k) (sdP t r fi row k)
def anyShadow (t : Trk) (r : Rel) (fi : Nat → Int) (row : Int) (k m : Nat) : Bool := (List.range m).any fun j => hidesP (soP t r j) (sdP t r fi row j) (soP t r k) (sdP t r fi row k)
def kindB (o s : Bool) : Int := if o && s then 3 else if o then 1 else if s then 2 else 0
def kindP (t : Trk) (r : Rel) (fi : Nat → Int) (row : Int) (k : Nat) : Int := kindB (anyOver t r fi row k r.cols.toNat) (anyShadow t r fi row k r.cols.toNat)
def kindsP (t : Trk) (r : Rel) (fi : Nat → Int) (row : Int) : List Int := (List.range r.cols.toNat).map (kindP t r fi row)
theorem anyOver_succ (t : Trk) (r : Rel) (fi : Nat → Int) (row : Int) (k m : Nat) : anyOver t r fi row k (m + 1) = (anyOver t r fi row k m || liesP (soP t r m) (sdP t r fi row m) (soP t r k) (sdP t r fi row k)) := by
  unfold anyOver; rw [List.range_succ, List.any_append]; simp
theorem anyShadow_succ (t : Trk) (r : Rel) (fi : Nat → Int) (row : Int) (k m : Nat) : anyShadow t r fi row k (m + 1) = (anyShadow t r fi row k m || hidesP (soP t r m) (sdP t r fi row m) (soP t r k) (sdP t r fi row k)) := by
  unfold anyShadow; rw [List.range_succ, List.any_append]; simp
theorem ownsRow_below {w w' : World} {base e size n : Nat} {v : Value} {xs : List Value} (h : w.ownsRow base e size v n xs) (hw : Below w.heap.size w w') : w'.ownsRow base e size v n xs := by
  obtain ⟨h1, h2 | ⟨g, cap, cur, h3, h4, h5, h6⟩⟩ := h
  · exact ⟨h1, Or.inl h2⟩
  · exact ⟨h1, Or.inr ⟨g, cap, cur, h3, h4, (hw.block g (Array.getElem?_eq_some_iff.1 h5).1).trans h5, h6⟩⟩
theorem info3 : (Try.prog.info? 3).map (fun i => (i.zero, i.size, i.bytes)) = some (some (.int .i64 0), 1, 8) := by kernel_rfl
theorem row_n (t : Trk) (r : Rel) (fi : Nat → Int) (b off cap : Nat) (row : Int) (w : World) (n : Nat) (hn : r.cols.toNat = n) (ot : t.Ok) (o : r.Ok) (hf : FlInts fi r.ds) (a1 : 0 ≤ row) (a2 : row < r.rows)
    (hbw : b < w.heap.size) (hc : FloatsAt w b off r.ds) :
    Calls Try.prog 99 #[.agg #[.int .i64 t.sx, .int .i64 t.sy, .int .i64 t.sz, .int .i64 t.step, .int .i64 t.lines, .int .i64 t.near, .int .i64 t.bin, .int .i64 t.bins, .bool t.east, .int .i64 r.x, .int .i64 r.y, .int .i64 r.cell, .int .i64 r.rows, .int .i64 r.cols, .slice (some ⟨b, off, none⟩) r.ds.length cap], .int .i64 row] w
      fun e w' => ∃ g c, e = .returned (.slice (some ⟨g, 0, none⟩) n c) ∧ w.heap.size ≤ g ∧ g < w'.heap.size ∧ SightsAt w' g t r fi row n ∧ Below w.heap.size w w' := by
  subst hn; exact row_sights t r fi b off cap row w ot o hf a1 a2 hbw hc
set_option maxRecDepth 20000 in
set_option maxHeartbeats 4000000 in
theorem kinds_any (t : Trk) (r : Rel) (fi : Nat → Int) (b off cap : Nat) (row : Int) (w : World) (ot : t.Ok) (o : r.Ok) (hf : FlInts fi r.ds) (a1 : 0 ≤ row) (a2 : row < r.rows)
    (hbw : b < w.heap.size) (hc : FloatsAt w b off r.ds) :
    Calls Try.prog 96 #[.agg #[.int .i64 t.sx, .int .i64 t.sy, .int .i64 t.sz, .int .i64 t.step, .int .i64 t.lines, .int .i64 t.near, .int .i64 t.bin, .int .i64 t.bins, .bool t.east, .int .i64 r.x, .int .i64 r.y, .int .i64 r.cell, .int .i64 r.rows, .int .i64 r.cols, .slice (some ⟨b, off, none⟩) r.ds.length cap], .int .i64 row] w
      fun e w' => ∃ g, e = .returned (.slice (some ⟨g, 0, none⟩) r.cols.toNat r.cols.toNat) ∧ w'.ownsRow w.heap.size 3 1 (.slice (some ⟨g, 0, none⟩) r.cols.toNat r.cols.toNat) r.cols.toNat ((kindsP t r fi row).map (.int .i64)) ∧ Below w.heap.size w w' := by
  obtain ⟨i0, hi, hz0, hz1, hz2⟩ := info_parts info3
  have HSB := Lib.hid (fun (k : Nat) (hk : (k : Int) < r.cols) => so_bd ot o (show (0 : Int) ≤ k by omega) hk)
  have HDB := Lib.hid (fun (k : Nat) (hk : (k : Int) < r.cols) => sd_bd ot o hf a1 a2 (show (0 : Int) ≤ k by omega) hk)
  have OT := Lib.hid ot
  have O := Lib.hid o
  have HFI := Lib.hid hf
  have HFC := Lib.hid hc
  obtain ⟨-, -, -, -, -, -, r1, r2, l1, l2, -⟩ := o
  obtain ⟨n, hn⟩ : ∃ n : Nat, r.cols.toNat = n := ⟨_, rfl⟩
  have hn1 : (n : Int) = r.cols := by omega
  have HN1 := Lib.hid hn1
  have HKP := Lib.hid (show ∀ k, kindP t r fi row k = kindB (anyOver t r fi row k n) (anyShadow t r fi row k n) from fun k => by unfold kindP; rw [hn])
  have HKS := Lib.hid (show kindsP t r fi row = (List.range n).map (kindP t r fi row) by unfold kindsP; rw [hn])
  have hnl : 1 ≤ n := by omega
  have hnh : n ≤ 64 := by omega
  have HN := Lib.hid (show ((r.cols.toNat : Nat) : Int) = (n : Int) by rw [hn])
  have HNN := Lib.hid hn
  clear ot hf hc hn hn1
  go_enter Try.func96, Try.ntmps96
  go_wp2_with (first | (go_at_call 99; refine (row_n t r fi b off cap row _ n HNN.out OT.out O.out HFI.out (by omega) (by omega) (by simp; omega) (HFC.out.below hbw (by (repeat' (first | with_reducible exact Below.refl _ _ | (with_reducible refine below_later_of ?_ ?_ _) | (with_reducible refine Below.alloc ?_ ?_ _) | (with_reducible refine Below.setCell ?_ ?_ _) | (with_reducible refine Below.drew ?_) | (simp; done) | (simp; omega) | omega))))).mono ?_; rintro e w2 ⟨g, c, rfl, hg1, hg2, hsi, hb2⟩) | (at_make; refine wpList_make_full _ rfl _ _ 61 rfl w2.heap.size 3 i0 (.int .i64 0) 1 Try.underlying61 hi hz0 hz1 _ _ _ _ n rfl rfl rfl rfl (by rw [hz2]; omega) (by unfold maxLen; omega) (Nat.le_refl _) ?_; intro w3 hown3 hgrow3))
  have HB := Lib.hid (show Below w.heap.size w w2 from (show Below w.heap.size w _ from (by (repeat' (first | with_reducible exact Below.refl _ _ | (with_reducible refine below_later_of ?_ ?_ _) | (with_reducible refine Below.alloc ?_ ?_ _) | (with_reducible refine Below.setCell ?_ ?_ _) | (with_reducible refine Below.drew ?_) | (simp; done) | (simp; omega) | omega)))).trans (hb2.mono (by simp)))
  have hw2 : w.heap.size < w2.heap.size := by have := hb2.size; simp at this; omega
  have HSI := Lib.hid hsi
  have HX3 := Lib.hid (show Below w2.heap.size w2 w3 from (Below.refl _ _).grown hgrow3 (Nat.le_refl _) (fun g hg => by cases hg))
  have HO3 := Lib.hid (show ∃ ys : List Int, ys.length = n ∧ w3.ownsRow w2.heap.size 3 1 (.slice (some ⟨w2.heap.size, 0, none⟩) n n) n (ys.map (.int .i64)) from
    ⟨List.replicate n 0, by simp, by rw [List.map_replicate]; have := hown3; rwa [show (Value.int .i64 0).cells = #[Value.int .i64 0] from rfl, toList_madeCells_one, Nat.mul_one] at this⟩)
  clear hb2 hsi hown3 hgrow3
  go_wp2
  go_loopw [21] (fun i wr => ∃ k : Nat, k ≤ n ∧ i = .int .i64 k ∧ (∃ ys : List Int, ys.length = n ∧ wr.ownsRow w2.heap.size 3 1 (.slice (some ⟨w2.heap.size, 0, none⟩) n n) n (ys.map (.int .i64)) ∧ ∀ j, j < k → ys[j]? = some (kindP t r fi row j)) ∧ Below w2.heap.size w2 wr)
    (fun i _ => n - (intOf i).toNat)
  case atStart =>
    obtain ⟨ys, h1, h2⟩ := HO3.out
    exact ⟨0, Nat.zero_le _, rfl, ⟨ys, h1, h2, fun j hj => by omega⟩, HX3.out⟩
  case round =>
    obtain ⟨k, hk, rfl, hys, hnx⟩ := hrel
    obtain ⟨wo, hwo⟩ : ∃ wo : World, wo = wr := ⟨_, rfl⟩
    subst hwo
    have HX := Lib.hid hnx
    have HYS := Lib.hid hys
    have hszo := hnx.size
    clear hys
    by_cases hlt : k < n
    · obtain ⟨d1, d2⟩ := (HSI.out.below hg2 hnx) k hlt
      have hgo : g < wo.heap.size := by omega
      have B3 := Lib.hid (HSB.out k (by have := HN1.out; omega))
      have B4 := Lib.hid (HDB.out k (by have := HN1.out; omega))
      have HKK := Lib.hid (HKP.out k)
      have HSOK := Lib.hid (fun m => anyOver_succ t r fi row k m)
      have HSSK := Lib.hid (fun m => anyShadow_succ t r fi row k m)
      have HO0 := Lib.hid (show anyOver t r fi row k 0 = false from rfl)
      have HS0 := Lib.hid (show anyShadow t r fi row k 0 = false from rfl)
      generalize soP t r k = so at d1 B3 HSOK HSSK
      generalize sdP t r fi row k = sd at d2 B4 HSOK HSSK
      clear hnx
      go_wp2
      obtain ⟨W3, hW3, e1, e2, hlt3, hB3⟩ : ∃ W3, wo.alloc (.cells #[.int .i64 so, .int .i64 sd] 153) = W3 ∧ W3.cell? ⟨wo.heap.size, 0, none⟩ = some (.int .i64 so) ∧ W3.cell? ⟨wo.heap.size, 1, none⟩ = some (.int .i64 sd) ∧ wo.heap.size < W3.heap.size ∧ Below wo.heap.size wo W3 :=
        ⟨_, rfl, World.cell?_alloc_new _ _ _ _, World.cell?_alloc_new _ _ _ _, by simp, (Below.refl _ _).alloc (Nat.le_refl _) _⟩
      rw [hW3]
      have E1 := Lib.hid e1
      have E2 := Lib.hid e2
      have HB3 := Lib.hid hB3
      clear hW3 e1 e2 hB3 d1 d2
      go_loopw [9, 10, 28] (fun ov sh v wr => ∃ m : Nat, m ≤ n ∧ v = .int .i64 m ∧ ov = .bool (anyOver t r fi row k m) ∧ sh = .bool (anyShadow t r fi row k m) ∧ Below W3.heap.size W3 wr)
        (fun _ _ v _ => n - (intOf v).toNat)
      case atStart => exact ⟨0, Nat.zero_le _, rfl, by rw [HO0.out], by rw [HS0.out], Below.refl _ _⟩
      case round =>
        obtain ⟨m, hm, rfl, rfl, rfl, hnx⟩ := hrel
        have hszi := hnx.size
        have s1 := (hnx.cell (p := ⟨wo.heap.size, 0, none⟩) hlt3).trans E1.out
        have s2 := (hnx.cell (p := ⟨wo.heap.size, 1, none⟩) hlt3).trans E2.out
        have HXI := Lib.hid hnx
        have HXW := Lib.hid (show Below w2.heap.size w2 wr from HX.out.trans ((HB3.out.trans (hnx.mono (by omega))).mono hszo))
        by_cases hml : m < n
        · obtain ⟨d1, d2⟩ := (HSI.out.below hg2 HXW.out) m hml
          have hgr : g < wr.heap.size := by omega
          have B1 := Lib.hid (HSB.out m (by have := HN1.out; omega))
          have B2 := Lib.hid (HDB.out m (by have := HN1.out; omega))
          have HSO := Lib.hid (HSOK.out m)
          have HSS := Lib.hid (HSSK.out m)
          generalize soP t r m = mo at d1 B1 HSO HSS
          generalize sdP t r fi row m = md at d2 B2 HSO HSS
          obtain ⟨l, hl⟩ : ∃ l, liesP mo md so sd = l := ⟨_, rfl⟩
          obtain ⟨h, hh⟩ : ∃ h, hidesP mo md so sd = h := ⟨_, rfl⟩
          have HL := Lib.hid hl
          have HH := Lib.hid hh
          rw [hl] at HSO
          rw [hh] at HSS
          clear hl hh hnx
          generalize anyOver t r fi row k m = ov at HSO
          generalize anyShadow t r fi row k m = sh at HSS
          cases ov <;> cases sh
          all_goals (go_wp2_with (first | (go_at_call 138; (with_reducible refine (lies_any _ _ _ _ _ B1.out B2.out B3.out B4.out HL.out).mono ?_); rintro e w' ⟨rfl, hb⟩; obtain ⟨pp, rfl⟩ := later_of_below hb; clear hb) | (go_at_call 100; (with_reducible refine (hides_any _ _ _ _ _ B1.out B2.out B3.out B4.out HH.out).mono ?_); rintro e w' ⟨rfl, hb⟩; obtain ⟨pp, rfl⟩ := later_of_below hb; clear hb)))
          all_goals (go_roundw; (case rel => exact ⟨m + 1, by omega, by go_num, by rw [HSO.out]; rfl, by rw [HSS.out]; rfl, HXI.out.trans (below_mono_of hszi (by (repeat' (first | with_reducible exact Below.refl _ _ | (with_reducible refine below_later_of ?_ ?_ _) | (with_reducible refine Below.alloc ?_ ?_ _) | (with_reducible refine Below.setCell ?_ ?_ _) | (with_reducible refine Below.drew ?_) | (simp; done) | (simp; omega) | omega))))⟩); (case measure => simp [intOf]; omega))
        · obtain rfl : m = n := by omega
          obtain ⟨ys, hy1, hy2, hy3⟩ := HYS.out
          have hw4 : Below wo.heap.size wo wr := HB3.out.trans (hnx.mono (by omega))
          have HO4 := Lib.hid (ownsRow_below hy2 hw4)
          have hcl : ∃ z : Int, wr.cell? ⟨w2.heap.size, k, none⟩ = some (.int .i64 z) := by
            refine ⟨ys[k], ?_⟩
            rw [HO4.out.cellAt k (by omega)]
            simp [hy1, hlt]
          obtain ⟨z, hcl⟩ := hcl
          have hfz := HO4.out.frozenAt k
          have HZ := Lib.hid (show ∀ u : Int, (∀ v : Int, v = u → kindP t r fi row k = v) → (∃ ys : List Int, ys.length = m ∧ (wr.setCell ⟨w2.heap.size, k, none⟩ (.int .i64 u)).ownsRow w2.heap.size 3 1 (.slice (some ⟨w2.heap.size, 0, none⟩) m m) m (ys.map (.int .i64)) ∧ ∀ j, j < k + 1 → ys[j]? = some (kindP t r fi row j)) ∧ Below w2.heap.size w2 (wr.setCell ⟨w2.heap.size, k, none⟩ (.int .i64 u)) from fun u hu => by
            refine ⟨⟨ys.set k u, by simpa using hy1, ?_, fun j hj => ?_⟩, HXW.out.setCell (Nat.le_refl _) _⟩
            · have := (HO4.out.stored k (.int .i64 u)).1
              rwa [← List.map_set] at this
            · by_cases e : j = k
              · rw [e, List.getElem?_set_self (by omega), hu u rfl]
              · rw [List.getElem?_set_ne (Ne.symm e)]; exact hy3 j (by omega))
          have hw2r : w2.heap.size < wr.heap.size := (HO4.out.lt _ rfl).2
          clear hy1 hy2 hy3 hw4 hnx s1 s2
          generalize anyOver t r fi row k m = ov at HKK
          generalize anyShadow t r fi row k m = sh at HKK
          cases ov <;> cases sh
          all_goals go_wp2
          all_goals (go_roundw; (case rel => refine ⟨k + 1, by omega, by go_num, ?_⟩; refine HZ.out _ ?_; intro v hv; rw [HKK.out, hv]; rfl); (case measure => simp [intOf]; omega))
    · obtain rfl : k = n := by omega
      go_wp2
      go_ret
      obtain ⟨ys, hy1, hy2, hy3⟩ := HYS.out
      have hl : kindsP t r fi row = ys := by
        rw [HKS.out]
        apply List.ext_getElem?
        intro j
        by_cases hj : j < k
        · rw [hy3 j hj]; simp [hj]
        · rw [List.getElem?_eq_none (by simp; omega), List.getElem?_eq_none (by omega)]
      rw [HNN.out, hl]
      exact ⟨_, rfl, ownsRow_mono hy2 (by omega), HB.out.trans (HX.out.mono (by omega))⟩
end Go.Proofs.Ythnfepfbkmafaaa
