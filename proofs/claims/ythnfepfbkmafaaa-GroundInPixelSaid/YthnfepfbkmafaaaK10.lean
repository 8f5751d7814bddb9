/- MaskRow. -/
import Derived.Test.YthnfepfbkmafaaaK8
import Derived.Test.YthnfepfbkmafaaaK5
namespace Go.Proofs.Ythnfepfbkmafaaa
set_option linter.unusedVariables false
open Go.RowKit
/-- What is asked of a relief's value: how long it is, what its floats are, where they lie. -/
structure RelAt (fe fi : Nat → Int) (w : World) (r : Rel) (a : Option Addr) : Prop where
  len : r.ds.length ≤ 1000000000
  errs : ∀ k, k < r.ds.length → FlErr (bitAt r.ds k) (fe (bitAt r.ds k))
  ints : relErrP fe r = 0 → FlInts fi r.ds
  at_ : 0 < r.ds.length → ∃ b off, a = some ⟨b, off, none⟩ ∧ b < w.heap.size ∧ FloatsAt w b off r.ds
theorem RelAt.below {fe fi : Nat → Int} {w w' : World} {r : Rel} {a : Option Addr} (h : RelAt fe fi w r a) (hw : Below w.heap.size w w') : RelAt fe fi w' r a :=
  ⟨h.len, h.errs, h.ints, fun hp => by
    obtain ⟨b, off, h1, h2, h3⟩ := h.at_ hp
    exact ⟨b, off, h1, Nat.lt_of_lt_of_le h2 hw.size, h3.below h2 hw⟩⟩
theorem RelAt.pos {fe fi : Nat → Int} {w : World} {r : Rel} {a : Option Addr} (h : RelAt fe fi w r a) (hr : relErrP fe r = 0) : ∃ b off, a = some ⟨b, off, none⟩ ∧ b < w.heap.size ∧ FloatsAt w b off r.ds := by
  refine h.at_ ?_
  have o := (relErrP_ok hr).1
  have h1 := o.len
  have : 1 * 1 ≤ r.rows * r.cols := Int.mul_le_mul o.r1 o.l1 (by omega) (by have := o.r1; omega)
  omega
theorem viewOf_any (fe fi : Nat → Int) (t : Trk) (r : Rel) (a : Option Addr) (cap : Nat) (w : World) (h : RelAt fe fi w r a) {e0 : Int} (he : viewErrP fe fi t r = e0) :
    Calls Try.prog 95 #[.agg #[.int .i64 t.sx, .int .i64 t.sy, .int .i64 t.sz, .int .i64 t.step, .int .i64 t.lines, .int .i64 t.near, .int .i64 t.bin, .int .i64 t.bins, .bool t.east], .agg #[.int .i64 r.x, .int .i64 r.y, .int .i64 r.cell, .int .i64 r.rows, .int .i64 r.cols, .slice a r.ds.length cap]] w fun e w' => e = .returned (.tuple #[.agg #[.int .i64 t.sx, .int .i64 t.sy, .int .i64 t.sz, .int .i64 t.step, .int .i64 t.lines, .int .i64 t.near, .int .i64 t.bin, .int .i64 t.bins, .bool t.east, .int .i64 r.x, .int .i64 r.y, .int .i64 r.cell, .int .i64 r.rows, .int .i64 r.cols, .slice a r.ds.length cap], .int .i64 e0]) ∧ Below w.heap.size w w' := by
  subst he
  by_cases h0 : first2 (checkTrackP t) (relErrP fe r) = 0
  · have h1 : checkTrackP t = 0 ∧ relErrP fe r = 0 := by
      unfold first2 at h0
      split at h0
      · rename_i h1; exact ⟨h1, h0⟩
      · contradiction
    obtain ⟨b, off, rfl, h2, h3⟩ := h.pos h1.2
    exact viewOf_ok fe fi t r b off cap w h.len h.errs (h.ints h1.2) h2 h3 h1.1 h1.2
  · exact viewOf_err fe fi t r a cap w h.len h.errs h.at_ h0
theorem viewErrP_ok {fe fi : Nat → Int} {t : Trk} {r : Rel} (h : viewErrP fe fi t r = 0) : checkTrackP t = 0 ∧ relErrP fe r = 0 ∧ ¬ BadOff t r ∧ deepUpto t r fi r.ds.length = true := by
  unfold viewErrP at h
  split at h
  · rename_i h0
    have h1 : checkTrackP t = 0 ∧ relErrP fe r = 0 := by
      unfold first2 at h0
      split at h0
      · rename_i h1; exact ⟨h1, h0⟩
      · contradiction
    split at h
    · exact absurd h (by decide)
    · rename_i h2
      split at h
      · rename_i h3; exact ⟨h1.1, h1.2, h2, h3⟩
      · exact absurd h (by decide)
  · contradiction
noncomputable def maskErrP (fe fi : Nat → Int) (t : Trk) (r : Rel) (row : Int) : Int := if viewErrP fe fi t r = 0 then (if inR 0 (r.rows - 1) row then 0 else 6) else viewErrP fe fi t r
set_option maxRecDepth 20000 in
set_option maxHeartbeats 1000000 in
theorem maskRow_bad (fe fi : Nat → Int) (t : Trk) (r : Rel) (a : Option Addr) (cap : Nat) (row : Int) (w : World) (h : RelAt fe fi w r a) (hm : maskErrP fe fi t r row ≠ 0) :
    Calls Try.prog 30 #[.agg #[.int .i64 t.sx, .int .i64 t.sy, .int .i64 t.sz, .int .i64 t.step, .int .i64 t.lines, .int .i64 t.near, .int .i64 t.bin, .int .i64 t.bins, .bool t.east], .agg #[.int .i64 r.x, .int .i64 r.y, .int .i64 r.cell, .int .i64 r.rows, .int .i64 r.cols, .slice a r.ds.length cap], .int .i64 row] w fun e w' => e = .returned (.tuple #[.slice none 0 0, .int .i64 (maskErrP fe fi t r row)]) ∧ Below w.heap.size w w' := by
  have HR := Lib.hid h
  clear h
  by_cases hv : viewErrP fe fi t r = 0
  · have HE := Lib.hid hv
    cases hw : inR 0 (r.rows - 1) row
    · have HF : maskErrP fe fi t r row = 6 := by unfold maskErrP; rw [if_pos hv, hw]; rfl
      rw [HF]
      have HW := Lib.hid hw
      obtain ⟨-, h1, -, -⟩ := viewErrP_ok hv
      obtain ⟨-, -, -, -, -, -, r1, r2, -, -, -⟩ := (relErrP_ok h1).1
      clear HF hm hv hw h1
      go_enter Try.func30, Try.ntmps30
      go_wp2_with (first | (go_at_call 95; refine (viewOf_any fe fi t r _ cap _ (HR.out.below (by (repeat' (first | with_reducible exact Below.refl _ _ | (with_reducible refine below_later_of ?_ ?_ _) | (with_reducible refine Below.alloc ?_ ?_ _) | (with_reducible refine Below.setCell ?_ ?_ _) | (with_reducible refine Below.drew ?_) | (simp; done) | (simp; omega) | omega)))) HE.out).mono ?_; rintro e w' ⟨rfl, hb⟩; obtain ⟨pp, rfl⟩ := later_of_below hb; clear hb) | (go_at_call 85; (with_reducible refine (within_c row 0 (r.rows - 1) _ HW.out).mono ?_); rintro e w' ⟨rfl, rfl⟩))
      go_ret2
      exact ⟨rfl, (by (repeat' (first | with_reducible exact Below.refl _ _ | (with_reducible refine below_later_of ?_ ?_ _) | (with_reducible refine Below.alloc ?_ ?_ _) | (with_reducible refine Below.setCell ?_ ?_ _) | (with_reducible refine Below.drew ?_) | (simp; done) | (simp; omega) | omega)))⟩
    · exact absurd (show maskErrP fe fi t r row = 0 by unfold maskErrP; rw [if_pos hv, hw]; rfl) hm
  · obtain ⟨e0, he⟩ : ∃ e0, viewErrP fe fi t r = e0 := ⟨_, rfl⟩
    have HF : maskErrP fe fi t r row = e0 := by unfold maskErrP; rw [if_neg hv, he]
    rw [HF]
    rw [he] at hv
    have HE := Lib.hid he
    clear HF hm he
    go_enter Try.func30, Try.ntmps30
    go_wp2_with (first | (go_at_call 95; refine (viewOf_any fe fi t r _ cap _ (HR.out.below (by (repeat' (first | with_reducible exact Below.refl _ _ | (with_reducible refine below_later_of ?_ ?_ _) | (with_reducible refine Below.alloc ?_ ?_ _) | (with_reducible refine Below.setCell ?_ ?_ _) | (with_reducible refine Below.drew ?_) | (simp; done) | (simp; omega) | omega)))) HE.out).mono ?_; rintro e w' ⟨rfl, hb⟩; obtain ⟨pp, rfl⟩ := later_of_below hb; clear hb))
    go_ret2
    exact ⟨rfl, (by (repeat' (first | with_reducible exact Below.refl _ _ | (with_reducible refine below_later_of ?_ ?_ _) | (with_reducible refine Below.alloc ?_ ?_ _) | (with_reducible refine Below.setCell ?_ ?_ _) | (with_reducible refine Below.drew ?_) | (simp; done) | (simp; omega) | omega)))⟩
set_option maxRecDepth 20000 in
set_option maxHeartbeats 1000000 in
theorem maskRow_ok (fe fi : Nat → Int) (t : Trk) (r : Rel) (a : Option Addr) (cap : Nat) (row : Int) (w : World) (h : RelAt fe fi w r a) (hm : maskErrP fe fi t r row = 0) :
    Calls Try.prog 30 #[.agg #[.int .i64 t.sx, .int .i64 t.sy, .int .i64 t.sz, .int .i64 t.step, .int .i64 t.lines, .int .i64 t.near, .int .i64 t.bin, .int .i64 t.bins, .bool t.east], .agg #[.int .i64 r.x, .int .i64 r.y, .int .i64 r.cell, .int .i64 r.rows, .int .i64 r.cols, .slice a r.ds.length cap], .int .i64 row] w fun e w' => ∃ g, e = .returned (.tuple #[.slice (some ⟨g, 0, none⟩) r.cols.toNat r.cols.toNat, .int .i64 0]) ∧
      w'.ownsRow w.heap.size 3 1 (.slice (some ⟨g, 0, none⟩) r.cols.toNat r.cols.toNat) r.cols.toNat ((kindsP t r fi row).map (.int .i64)) ∧ Below w.heap.size w w' := by
  have HR := Lib.hid h
  have hv : viewErrP fe fi t r = 0 := by
    unfold maskErrP at hm
    split at hm
    · assumption
    · contradiction
  have hw : inR 0 (r.rows - 1) row = true := by
    unfold maskErrP at hm
    rw [if_pos hv] at hm
    split at hm
    · assumption
    · exact absurd hm (by decide)
  obtain ⟨h1, h2, -, -⟩ := viewErrP_ok hv
  obtain ⟨b, off, rfl, hbw, hfl⟩ := h.pos h2
  have HFI := Lib.hid (h.ints h2)
  have HFL := Lib.hid hfl
  have OT := Lib.hid (checkTrackP_ok h1)
  have O := Lib.hid (relErrP_ok h2).1
  have HE := Lib.hid hv
  have HW := Lib.hid hw
  obtain ⟨w1, w2⟩ := inR_iff.1 hw
  obtain ⟨-, -, -, -, -, -, r1, r2, l1, l2, -⟩ := (relErrP_ok h2).1
  obtain ⟨n, hn⟩ : ∃ n : Nat, r.cols.toNat = n := ⟨_, rfl⟩
  have HN := Lib.hid hn
  clear h hv hw h1 h2 hfl hm hn
  go_enter Try.func30, Try.ntmps30
  go_wp2_with (first | (go_at_call 95; refine (viewOf_any fe fi t r _ cap _ (HR.out.below (by (repeat' (first | with_reducible exact Below.refl _ _ | (with_reducible refine below_later_of ?_ ?_ _) | (with_reducible refine Below.alloc ?_ ?_ _) | (with_reducible refine Below.setCell ?_ ?_ _) | (with_reducible refine Below.drew ?_) | (simp; done) | (simp; omega) | omega)))) HE.out).mono ?_; rintro e w' ⟨rfl, hb⟩; obtain ⟨pp, rfl⟩ := later_of_below hb; clear hb) | (go_at_call 85; (with_reducible refine (within_c row 0 (r.rows - 1) _ HW.out).mono ?_); rintro e w' ⟨rfl, rfl⟩) | (go_at_call 96; refine (kinds_any t r fi b off cap row _ OT.out O.out HFI.out (by omega) (by omega) (by simp; omega) (HFL.out.below hbw (by (repeat' (first | with_reducible exact Below.refl _ _ | (with_reducible refine below_later_of ?_ ?_ _) | (with_reducible refine Below.alloc ?_ ?_ _) | (with_reducible refine Below.setCell ?_ ?_ _) | (with_reducible refine Below.drew ?_) | (simp; done) | (simp; omega) | omega))))).mono ?_; rintro e w2 ⟨g, rfl, hown, hb2⟩))
  have HB := Lib.hid (show Below w.heap.size w w2 from (show Below w.heap.size w _ from (by (repeat' (first | with_reducible exact Below.refl _ _ | (with_reducible refine below_later_of ?_ ?_ _) | (with_reducible refine Below.alloc ?_ ?_ _) | (with_reducible refine Below.setCell ?_ ?_ _) | (with_reducible refine Below.drew ?_) | (simp; done) | (simp; omega) | omega)))).trans (hb2.mono (by simp; omega)))
  have HO := Lib.hid (ownsRow_mono hown (show w.heap.size ≤ _ by simp; omega))
  clear hown hb2
  go_wp2
  go_ret2
  exact ⟨g, rfl, HO.out, HB.out⟩
end Go.Proofs.Ythnfepfbkmafaaa
