/- Reliefs: the reference's check. -/
import Derived.Test.YtokpdmlmlkkekaaZH
import Derived.Test.YtokpdmlmlkkekaaZR
namespace Go.Proofs.Ytokpdmlmlkkekaa
set_option linter.unusedVariables false
open Go.RowKit
set_option maxRecDepth 20000 in
set_option maxHeartbeats 4000000 in
theorem rCheckRelief (r : Rel) (a : Option Addr) (cap : Nat) (w : World) (hlen : r.ds.length ≤ 1000000000) (ha : 0 < r.ds.length → ∃ b off, a = some ⟨b, off, none⟩ ∧ b < w.heap.size ∧ FloatsAt w b off r.ds) :
    Calls Try.prog 43 #[.agg #[.int .i64 r.x, .int .i64 r.y, .int .i64 r.cell, .int .i64 r.rows, .int .i64 r.cols, .slice a r.ds.length cap]] w fun e w' => e = .returned (.int .i64 (relErrP feB r)) ∧ Below w.heap.size w w' := by
  have HA := Lib.hid ha
  clear ha
  rcases (show inR (-100000000) 100000000 r.x = false ∨ inR (-100000000) 100000000 r.x = true by cases inR (-100000000) 100000000 r.x <;> simp) with h0 | h0
  · have HF := Lib.hid (show relErrP feB r = 2 by unfold relErrP relPlaceB; rw [h0]; rfl)
    have H0 := Lib.hid h0
    clear h0
    go_enter Try.func43, Try.ntmps43
    go_wp2_with (first | (go_at_call 112; (with_reducible refine (rIsPlace1 r.x _ H0.out).mono ?_); rintro e w' ⟨rfl, rfl⟩))
    (go_ret; exact ⟨ret_int HF.out.symm, (by (repeat' (first | with_reducible exact Below.refl _ _ | (with_reducible refine below_later_of ?_ ?_ _) | (with_reducible refine Below.alloc ?_ ?_ _) | (with_reducible refine Below.setCell ?_ ?_ _) | (with_reducible refine Below.drew ?_) | (simp; done) | (simp; omega) | omega)))⟩)
  rcases (show inR (-100000000) 100000000 r.y = false ∨ inR (-100000000) 100000000 r.y = true by cases inR (-100000000) 100000000 r.y <;> simp) with h1 | h1
  · have HF := Lib.hid (show relErrP feB r = 2 by unfold relErrP relPlaceB; rw [h0, h1]; rfl)
    have H0 := Lib.hid h0
    have H1 := Lib.hid h1
    clear h0 h1
    go_enter Try.func43, Try.ntmps43
    go_wp2_with (first | (go_at_call 112; (with_reducible refine (rIsPlace1 r.x _ H0.out).mono ?_); rintro e w' ⟨rfl, rfl⟩) | (go_at_call 112; (with_reducible refine (rIsPlace1 r.y _ H1.out).mono ?_); rintro e w' ⟨rfl, rfl⟩))
    (go_ret; exact ⟨ret_int HF.out.symm, (by (repeat' (first | with_reducible exact Below.refl _ _ | (with_reducible refine below_later_of ?_ ?_ _) | (with_reducible refine Below.alloc ?_ ?_ _) | (with_reducible refine Below.setCell ?_ ?_ _) | (with_reducible refine Below.drew ?_) | (simp; done) | (simp; omega) | omega)))⟩)
  rcases (show inR 1 1000 r.cell = false ∨ inR 1 1000 r.cell = true by cases inR 1 1000 r.cell <;> simp) with h2 | h2
  · have HF := Lib.hid (show relErrP feB r = 2 by unfold relErrP relPlaceB; rw [h0, h1, h2]; rfl)
    have H0 := Lib.hid h0
    have H1 := Lib.hid h1
    have H2 := Lib.hid h2
    clear h0 h1 h2
    go_enter Try.func43, Try.ntmps43
    go_wp2_with (first | (go_at_call 112; (with_reducible refine (rIsPlace1 r.x _ H0.out).mono ?_); rintro e w' ⟨rfl, rfl⟩) | (go_at_call 112; (with_reducible refine (rIsPlace1 r.y _ H1.out).mono ?_); rintro e w' ⟨rfl, rfl⟩) | (go_at_call 36; (with_reducible refine (bWithin r.cell _ _ _ H2.out).mono ?_); rintro e w' ⟨rfl, rfl⟩))
    (go_ret; exact ⟨ret_int HF.out.symm, (by (repeat' (first | with_reducible exact Below.refl _ _ | (with_reducible refine below_later_of ?_ ?_ _) | (with_reducible refine Below.alloc ?_ ?_ _) | (with_reducible refine Below.setCell ?_ ?_ _) | (with_reducible refine Below.drew ?_) | (simp; done) | (simp; omega) | omega)))⟩)
  have HQ := Lib.hid (show relErrP feB r = (if relSizeB r then scan (fun k => feB (bitAt r.ds k)) 0 r.ds.length else 10) by unfold relErrP relPlaceB; rw [h0, h1, h2]; rfl)
  have H0 := Lib.hid h0
  have H1 := Lib.hid h1
  have H2 := Lib.hid h2
  clear h0 h1 h2
  rcases (show inR 1 64 r.rows = false ∨ inR 1 64 r.rows = true by cases inR 1 64 r.rows <;> simp) with h3 | h3
  · have HF := Lib.hid (show relErrP feB r = 10 by rw [HQ.out]; unfold relSizeB; rw [h3]; rfl)
    have H3 := Lib.hid h3
    clear h3 HQ
    go_enter Try.func43, Try.ntmps43
    go_wp2_with (first | (go_at_call 112; (with_reducible refine (rIsPlace1 r.x _ H0.out).mono ?_); rintro e w' ⟨rfl, rfl⟩) | (go_at_call 112; (with_reducible refine (rIsPlace1 r.y _ H1.out).mono ?_); rintro e w' ⟨rfl, rfl⟩) | (go_at_call 36; (with_reducible refine (bWithin r.cell _ _ _ H2.out).mono ?_); rintro e w' ⟨rfl, rfl⟩) | (go_at_call 36; (with_reducible refine (bWithin r.rows _ _ _ H3.out).mono ?_); rintro e w' ⟨rfl, rfl⟩))
    (go_ret; exact ⟨ret_int HF.out.symm, (by (repeat' (first | with_reducible exact Below.refl _ _ | (with_reducible refine below_later_of ?_ ?_ _) | (with_reducible refine Below.alloc ?_ ?_ _) | (with_reducible refine Below.setCell ?_ ?_ _) | (with_reducible refine Below.drew ?_) | (simp; done) | (simp; omega) | omega)))⟩)
  rcases (show inR 1 64 r.cols = false ∨ inR 1 64 r.cols = true by cases inR 1 64 r.cols <;> simp) with h4 | h4
  · have HF := Lib.hid (show relErrP feB r = 10 by rw [HQ.out]; unfold relSizeB; rw [h3, h4]; rfl)
    have H3 := Lib.hid h3
    have H4 := Lib.hid h4
    clear h3 h4 HQ
    go_enter Try.func43, Try.ntmps43
    go_wp2_with (first | (go_at_call 112; (with_reducible refine (rIsPlace1 r.x _ H0.out).mono ?_); rintro e w' ⟨rfl, rfl⟩) | (go_at_call 112; (with_reducible refine (rIsPlace1 r.y _ H1.out).mono ?_); rintro e w' ⟨rfl, rfl⟩) | (go_at_call 36; (with_reducible refine (bWithin r.cell _ _ _ H2.out).mono ?_); rintro e w' ⟨rfl, rfl⟩) | (go_at_call 36; (with_reducible refine (bWithin r.rows _ _ _ H3.out).mono ?_); rintro e w' ⟨rfl, rfl⟩) | (go_at_call 36; (with_reducible refine (bWithin r.cols _ _ _ H4.out).mono ?_); rintro e w' ⟨rfl, rfl⟩))
    (go_ret; exact ⟨ret_int HF.out.symm, (by (repeat' (first | with_reducible exact Below.refl _ _ | (with_reducible refine below_later_of ?_ ?_ _) | (with_reducible refine Below.alloc ?_ ?_ _) | (with_reducible refine Below.setCell ?_ ?_ _) | (with_reducible refine Below.drew ?_) | (simp; done) | (simp; omega) | omega)))⟩)
  obtain ⟨r1, r2⟩ := inR_iff.1 h3
  obtain ⟨l1, l2⟩ := inR_iff.1 h4
  obtain ⟨m1, m2⟩ := mul_bd (show 0 ≤ r.rows by omega) r2 (show 0 ≤ r.cols by omega) l2
  by_cases h5 : (r.ds.length : Int) = r.rows * r.cols
  · have HQ2 := Lib.hid (show relErrP feB r = scan (fun k => feB (bitAt r.ds k)) 0 r.ds.length by rw [HQ.out]; unfold relSizeB; rw [h3, h4, decide_eq_true h5]; rfl)
    have H3 := Lib.hid h3
    have H4 := Lib.hid h4
    have h5' : ((r.ds.length : Int) != r.rows * r.cols) = false := by simpa using h5
    have hpos : 0 < r.ds.length := by
      have : 1 * 1 ≤ r.rows * r.cols := Int.mul_le_mul r1 l1 (by omega) (by omega)
      omega
    obtain ⟨b, off, rfl, hbw, hfl⟩ := HA.out hpos
    have HFL := Lib.hid hfl
    clear h3 h4 HQ h5 HA hfl
    go_enter Try.func43, Try.ntmps43
    go_wp2_with (first | (go_at_call 112; (with_reducible refine (rIsPlace1 r.x _ H0.out).mono ?_); rintro e w' ⟨rfl, rfl⟩) | (go_at_call 112; (with_reducible refine (rIsPlace1 r.y _ H1.out).mono ?_); rintro e w' ⟨rfl, rfl⟩) | (go_at_call 36; (with_reducible refine (bWithin r.cell _ _ _ H2.out).mono ?_); rintro e w' ⟨rfl, rfl⟩) | (go_at_call 36; (with_reducible refine (bWithin r.rows _ _ _ H3.out).mono ?_); rintro e w' ⟨rfl, rfl⟩) | (go_at_call 36; (with_reducible refine (bWithin r.cols _ _ _ H4.out).mono ?_); rintro e w' ⟨rfl, rfl⟩))
    obtain ⟨W3, hW3, hc3, hlt3, hb3⟩ : ∃ W3, W3 = (w.alloc (.cells #[.int .i64 r.x, .int .i64 r.y, .int .i64 r.cell, .int .i64 r.rows, .int .i64 r.cols, .slice (some ⟨b, off, none⟩) r.ds.length cap] 59)).alloc (.cells #[.int .i64 r.rows, .int .i64 r.cols, .slice (some ⟨b, off, none⟩) r.ds.length cap] 57) ∧ W3.cell? ⟨w.heap.size + 1, 2, none⟩ = some (.slice (some ⟨b, off, none⟩) r.ds.length cap) ∧ w.heap.size + 1 < W3.heap.size ∧ Below w.heap.size w W3 :=
      ⟨_, rfl, by (first | (simp [go_sem]; done) | simp [go_sem, ↓IntWalk.iteOmega]), by simp, (by (repeat' (first | with_reducible exact Below.refl _ _ | (with_reducible refine below_later_of ?_ ?_ _) | (with_reducible refine Below.alloc ?_ ?_ _) | (with_reducible refine Below.setCell ?_ ?_ _) | (with_reducible refine Below.drew ?_) | (simp; done) | (simp; omega) | omega)))⟩
    rw [← hW3]
    have HC3 := Lib.hid hc3
    have HB3 := Lib.hid hb3
    clear hW3 hc3 hb3
    go_loopw [4] (fun i wr => ∃ k : Nat, k ≤ r.ds.length ∧ i = .int .i64 k ∧ Below W3.heap.size W3 wr ∧ ∀ j, j < k → feB (bitAt r.ds j) = 0) (fun i _ => r.ds.length - (intOf i).toNat)
    case atStart => exact ⟨0, Nat.zero_le _, rfl, Below.refl _ _, fun j hj => by omega⟩
    case round =>
      obtain ⟨k, hk, rfl, hnx, hz⟩ := hrel
      have hs3 := HB3.out.size
      have HX := Lib.hid (HB3.out.trans (hnx.mono hs3))
      have HXN := Lib.hid hnx
      have hsz3 := hnx.size
      have hsz : w.heap.size ≤ wr.heap.size := by omega
      have hm := (hnx.cell (p := ⟨w.heap.size + 1, 2, none⟩) hlt3).trans HC3.out
      have HZ := Lib.hid hz
      clear hz hnx
      by_cases hlt : k < r.ds.length
      · have hc := (HFL.out.below hbw HX.out) k hlt
        have hbr : b < wr.heap.size := by omega
        have HQ3 := Lib.hid (show feB (bitAt r.ds k) ≠ 0 → scan (fun k => feB (bitAt r.ds k)) 0 r.ds.length = feB (bitAt r.ds k) from
          fun h => scan_hit (f := fun k => feB (bitAt r.ds k)) r.ds.length 0 k (fun j _ hj => HZ.out j hj) (Nat.zero_le _) (by omega) h)
        have HG := Lib.hid (show ∀ j, j < k + 1 → feB (bitAt r.ds k) = 0 → feB (bitAt r.ds j) = 0 from fun j hj h => by
          by_cases e : j = k
          · rw [e]; exact h
          · exact HZ.out j (by omega))
        have HE := Lib.hid (show feB (bitAt r.ds k) = if wholeB (bitAt r.ds k) then (if loB (bitAt r.ds k) || hiB (bitAt r.ds k) then 2 else 0) else 29 from rfl)
        generalize bitAt r.ds k = bk at hc HQ3 HE HG
        cases hd : Ieee.single.read bk with
        | number s m e =>
          have hcv := fun w => conv_num hd w
          have hw := fun w => (bIsWhole_num hd w).mono (R' := fun e' w' => e' = .returned (.bool (wholeB bk)) ∧ Below w.heap.size w w') fun _ _ ⟨h1, h2⟩ => ⟨h1, h2 ▸ Below.refl _ _⟩
          generalize Ieee.double.write (.number s m e) = r64 at hcv hw
          have HW := Lib.hid hw
          clear hw hd
          rcases (show wholeB bk = false ∨ wholeB bk = true by cases wholeB bk <;> simp) with h9 | h9
          · have HF := Lib.hid (show relErrP feB r = 29 by rw [HQ2.out, HQ3.out (by rw [HE.out, h9]; simp), HE.out, h9]; rfl)
            go_wp2_with (first | (go_at_call 113; refine (HW.out _).mono ?_; rintro e w' ⟨rfl, hb⟩; obtain ⟨pp, rfl⟩ := later_of_below hb; clear hb))
            (go_ret; exact ⟨ret_int HF.out.symm, HX.out.trans (below_mono_of hsz (by (repeat' (first | with_reducible exact Below.refl _ _ | (with_reducible refine below_later_of ?_ ?_ _) | (with_reducible refine Below.alloc ?_ ?_ _) | (with_reducible refine Below.setCell ?_ ?_ _) | (with_reducible refine Below.drew ?_) | (simp; done) | (simp; omega) | omega))))⟩)
          rcases (show loB bk = false ∨ loB bk = true by cases loB bk <;> simp) with h6 | h6
          · rcases (show hiB bk = false ∨ hiB bk = true by cases hiB bk <;> simp) with h7 | h7
            · have HV := Lib.hid (show feB bk = 0 by rw [HE.out, h9, h6, h7]; rfl)
              unfold loB at h6
              unfold hiB at h7
              go_wp2_with (first | (go_at_call 113; refine (HW.out _).mono ?_; rintro e w' ⟨rfl, hb⟩; obtain ⟨pp, rfl⟩ := later_of_below hb; clear hb))
              go_roundw
              case rel => exact ⟨k + 1, by omega, by go_num, HXN.out.trans (below_mono_of hsz3 (by (repeat' (first | with_reducible exact Below.refl _ _ | (with_reducible refine below_later_of ?_ ?_ _) | (with_reducible refine Below.alloc ?_ ?_ _) | (with_reducible refine Below.setCell ?_ ?_ _) | (with_reducible refine Below.drew ?_) | (simp; done) | (simp; omega) | omega)))), fun j hj => HG.out j hj HV.out⟩
              case measure => simp [intOf]; omega
            · have HF := Lib.hid (show relErrP feB r = 2 by rw [HQ2.out, HQ3.out (by rw [HE.out, h9, h7]; simp), HE.out, h9, h7]; simp)
              unfold loB at h6
              unfold hiB at h7
              go_wp2_with (first | (go_at_call 113; refine (HW.out _).mono ?_; rintro e w' ⟨rfl, hb⟩; obtain ⟨pp, rfl⟩ := later_of_below hb; clear hb))
              (go_ret; exact ⟨ret_int HF.out.symm, HX.out.trans (below_mono_of hsz (by (repeat' (first | with_reducible exact Below.refl _ _ | (with_reducible refine below_later_of ?_ ?_ _) | (with_reducible refine Below.alloc ?_ ?_ _) | (with_reducible refine Below.setCell ?_ ?_ _) | (with_reducible refine Below.drew ?_) | (simp; done) | (simp; omega) | omega))))⟩)
          · have HF := Lib.hid (show relErrP feB r = 2 by rw [HQ2.out, HQ3.out (by rw [HE.out, h9, h6]; simp), HE.out, h9, h6]; simp)
            unfold loB at h6
            go_wp2_with (first | (go_at_call 113; refine (HW.out _).mono ?_; rintro e w' ⟨rfl, hb⟩; obtain ⟨pp, rfl⟩ := later_of_below hb; clear hb))
            (go_ret; exact ⟨ret_int HF.out.symm, HX.out.trans (below_mono_of hsz (by (repeat' (first | with_reducible exact Below.refl _ _ | (with_reducible refine below_later_of ?_ ?_ _) | (with_reducible refine Below.alloc ?_ ?_ _) | (with_reducible refine Below.setCell ?_ ?_ _) | (with_reducible refine Below.drew ?_) | (simp; done) | (simp; omega) | omega))))⟩)
        | infinity s =>
          have h9 : wholeB bk = false := by unfold wholeB; rw [hd]; rfl
          have hcv := fun w => conv_inf hd w
          have hw := fun w => bIsWhole_i (s := s) w
          generalize Ieee.double.word s Ieee.double.infRung = r64 at hcv hw
          have HW := Lib.hid hw
          have HF := Lib.hid (show relErrP feB r = 29 by rw [HQ2.out, HQ3.out (by rw [HE.out, h9]; simp), HE.out, h9]; rfl)
          clear hw hd h9
          go_wp2_with (first | (go_at_call 113; refine (HW.out _).mono ?_; rintro e w' ⟨rfl, hb⟩; obtain ⟨pp, rfl⟩ := later_of_below hb; clear hb))
          (go_ret; exact ⟨ret_int HF.out.symm, HX.out.trans (below_mono_of hsz (by (repeat' (first | with_reducible exact Below.refl _ _ | (with_reducible refine below_later_of ?_ ?_ _) | (with_reducible refine Below.alloc ?_ ?_ _) | (with_reducible refine Below.setCell ?_ ?_ _) | (with_reducible refine Below.drew ?_) | (simp; done) | (simp; omega) | omega))))⟩)
        | nan s t =>
          have h9 : wholeB bk = false := by unfold wholeB; rw [hd]; rfl
          have hcv := fun w => conv_nan hd w
          have hw := fun w0 w => (bIsWhole_n (nanW_nan bk w0).choose_spec.choose_spec w).mono (R' := fun e' w' => e' = .returned (.bool false) ∧ Below w.heap.size w w') fun _ _ ⟨h1, h2⟩ => ⟨h1, h2 ▸ Below.refl _ _⟩
          generalize nanW bk = V at hcv hw
          have HW := Lib.hid (hw wr)
          have HF := Lib.hid (show relErrP feB r = 29 by rw [HQ2.out, HQ3.out (by rw [HE.out, h9]; simp), HE.out, h9]; rfl)
          clear hw hd h9
          go_wp2_with (first | (go_at_call 113; refine (HW.out _).mono ?_; rintro e w' ⟨rfl, hb⟩; obtain ⟨pp, rfl⟩ := later_of_below hb; clear hb))
          (go_ret; exact ⟨ret_int HF.out.symm, HX.out.trans (below_mono_of hsz (by (repeat' (first | with_reducible exact Below.refl _ _ | (with_reducible refine below_later_of ?_ ?_ _) | (with_reducible refine Below.alloc ?_ ?_ _) | (with_reducible refine Below.setCell ?_ ?_ _) | (with_reducible refine Below.drew ?_) | (simp; done) | (simp; omega) | omega))))⟩)
      · have HF := Lib.hid (show relErrP feB r = 0 by rw [HQ2.out]; exact scan_zero r.ds.length 0 (fun j _ hj => HZ.out j (by omega)))
        go_wp2
        (go_ret; exact ⟨ret_int HF.out.symm, HX.out.trans (below_mono_of hsz (by (repeat' (first | with_reducible exact Below.refl _ _ | (with_reducible refine below_later_of ?_ ?_ _) | (with_reducible refine Below.alloc ?_ ?_ _) | (with_reducible refine Below.setCell ?_ ?_ _) | (with_reducible refine Below.drew ?_) | (simp; done) | (simp; omega) | omega))))⟩)
  · have HF := Lib.hid (show relErrP feB r = 10 by rw [HQ.out]; unfold relSizeB; rw [h3, h4, decide_eq_false h5]; rfl)
    have H3 := Lib.hid h3
    have H4 := Lib.hid h4
    have h5' : ((r.ds.length : Int) != r.rows * r.cols) = true := by simpa using h5
    clear h3 h4 HQ h5
    go_enter Try.func43, Try.ntmps43
    go_wp2_with (first | (go_at_call 112; (with_reducible refine (rIsPlace1 r.x _ H0.out).mono ?_); rintro e w' ⟨rfl, rfl⟩) | (go_at_call 112; (with_reducible refine (rIsPlace1 r.y _ H1.out).mono ?_); rintro e w' ⟨rfl, rfl⟩) | (go_at_call 36; (with_reducible refine (bWithin r.cell _ _ _ H2.out).mono ?_); rintro e w' ⟨rfl, rfl⟩) | (go_at_call 36; (with_reducible refine (bWithin r.rows _ _ _ H3.out).mono ?_); rintro e w' ⟨rfl, rfl⟩) | (go_at_call 36; (with_reducible refine (bWithin r.cols _ _ _ H4.out).mono ?_); rintro e w' ⟨rfl, rfl⟩))
    (go_ret; exact ⟨ret_int HF.out.symm, (by (repeat' (first | with_reducible exact Below.refl _ _ | (with_reducible refine below_later_of ?_ ?_ _) | (with_reducible refine Below.alloc ?_ ?_ _) | (with_reducible refine Below.setCell ?_ ?_ _) | (with_reducible refine Below.drew ?_) | (simp; done) | (simp; omega) | omega)))⟩)
end Go.Proofs.Ytokpdmlmlkkekaa
