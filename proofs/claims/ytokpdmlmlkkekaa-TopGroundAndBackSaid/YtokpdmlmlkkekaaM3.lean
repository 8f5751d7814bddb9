/- Masks: the law's view error. -/
import Derived.Test.YtokpdmlmlkkekaaM2
import Derived.Test.YtokpdmlmlkkekaaZK
import Derived.Deep.CutRange
import Derived.Deep.RegionHeld3
namespace Go.Proofs.Ytokpdmlmlkkekaa
set_option linter.unusedVariables false
open Go.RowKit
theorem rCheckRel_e (r : Rel) (a : Option Addr) (cap : Nat) (w : World) {e0 : Int} (he : relErrP feB r = e0) (hlen : r.ds.length ≤ 1000000000) (ha : SrcAt w a r.ds) :
    Calls Try.prog 43 #[.agg #[.int .i64 r.x, .int .i64 r.y, .int .i64 r.cell, .int .i64 r.rows, .int .i64 r.cols, .slice a r.ds.length cap]] w fun e w' => e = .returned (.int .i64 e0) ∧ Below w.heap.size w w' := by subst he; exact rCheckRelief r a cap w hlen ha
theorem rel_pos {r : Rel} (h : relErrP feB r = 0) : 0 < r.ds.length := by
  have o := (relErrP_ok h).1
  have h1 := o.len
  have : 1 * 1 ≤ r.rows * r.cols := Int.mul_le_mul o.r1 o.l1 (by omega) (by have := o.r1; omega)
  omega
set_option maxRecDepth 20000 in
set_option maxHeartbeats 1000000 in
theorem lViewErr (t : Trk) (r : Rel) (a : Option Addr) (cap : Nat) (w : World) (hl : r.ds.length ≤ 1000000000) (hs : SrcAt w a r.ds) {e0 : Int} (he : viewErrP feB intB t r = e0) :
    Calls Try.prog 35 #[.agg #[.int .i64 t.sx, .int .i64 t.sy, .int .i64 t.sz, .int .i64 t.step, .int .i64 t.lines, .int .i64 t.near, .int .i64 t.bin, .int .i64 t.bins, .bool t.east], .agg #[.int .i64 r.x, .int .i64 r.y, .int .i64 r.cell, .int .i64 r.rows, .int .i64 r.cols, .slice a r.ds.length cap]] w fun e w' => e = .returned (.int .i64 e0) ∧ Below w.heap.size w w' := by
  have HS := Lib.hid hs
  by_cases ht : checkTrackP t = 0
  · have HT := Lib.hid ht
    by_cases hr : relErrP feB r = 0
    · have HR := Lib.hid hr
      have HE := Lib.hid he
      have HFI := Lib.hid (flInts_any hr)
      obtain ⟨b, off, rfl, hbw, hfc⟩ := hs (rel_pos hr)
      have HFC := Lib.hid hfc
      clear ht hr he hfc hs
      go_enter Try.func35, Try.ntmps35
      go_wp2_with (first | (go_at_call 20; refine (rCheckTrack t _ HT.out).mono ?_; rintro e w' ⟨rfl, hb⟩; obtain ⟨pp, rfl⟩ := later_of_below hb; clear hb) | (go_at_call 43; refine (rCheckRel_e r _ cap _ HR.out (by omega) (HS.out.below (by (repeat' (first | with_reducible exact Below.refl _ _ | (with_reducible refine below_later_of ?_ ?_ _) | (with_reducible refine Below.alloc ?_ ?_ _) | (with_reducible refine Below.setCell ?_ ?_ _) | (with_reducible refine Below.drew ?_) | (simp; done) | (simp; omega) | omega))))).mono ?_; rintro e w' ⟨rfl, hb⟩; obtain ⟨pp, rfl⟩ := later_of_below hb; clear hb) | (go_at_call 73; refine (rViewErr feB t r intB b off cap _ HT.out HR.out HFI.out (by simp; omega) (HFC.out.below hbw (by (repeat' (first | with_reducible exact Below.refl _ _ | (with_reducible refine below_later_of ?_ ?_ _) | (with_reducible refine Below.alloc ?_ ?_ _) | (with_reducible refine Below.setCell ?_ ?_ _) | (with_reducible refine Below.drew ?_) | (simp; done) | (simp; omega) | omega)))) HE.out).mono ?_; rintro e w' ⟨rfl, hb⟩; obtain ⟨pp, rfl⟩ := later_of_below hb; clear hb))
      go_ret
      exact ⟨rfl, (by (repeat' (first | with_reducible exact Below.refl _ _ | (with_reducible refine below_later_of ?_ ?_ _) | (with_reducible refine Below.alloc ?_ ?_ _) | (with_reducible refine Below.setCell ?_ ?_ _) | (with_reducible refine Below.drew ?_) | (simp; done) | (simp; omega) | omega)))⟩
    · obtain ⟨e1, he1⟩ : ∃ e1, relErrP feB r = e1 := ⟨_, rfl⟩
      have hv : viewErrP feB intB t r = e1 := by unfold viewErrP first2; rw [if_pos ht, if_neg hr, he1]
      rw [hv] at he
      subst he
      rw [he1] at hr
      have HR := Lib.hid he1
      clear ht he1 hv hs
      go_enter Try.func35, Try.ntmps35
      go_wp2_with (first | (go_at_call 20; refine (rCheckTrack t _ HT.out).mono ?_; rintro e w' ⟨rfl, hb⟩; obtain ⟨pp, rfl⟩ := later_of_below hb; clear hb) | (go_at_call 43; refine (rCheckRel_e r _ cap _ HR.out (by omega) (HS.out.below (by (repeat' (first | with_reducible exact Below.refl _ _ | (with_reducible refine below_later_of ?_ ?_ _) | (with_reducible refine Below.alloc ?_ ?_ _) | (with_reducible refine Below.setCell ?_ ?_ _) | (with_reducible refine Below.drew ?_) | (simp; done) | (simp; omega) | omega))))).mono ?_; rintro e w' ⟨rfl, hb⟩; obtain ⟨pp, rfl⟩ := later_of_below hb; clear hb))
      go_ret
      exact ⟨rfl, (by (repeat' (first | with_reducible exact Below.refl _ _ | (with_reducible refine below_later_of ?_ ?_ _) | (with_reducible refine Below.alloc ?_ ?_ _) | (with_reducible refine Below.setCell ?_ ?_ _) | (with_reducible refine Below.drew ?_) | (simp; done) | (simp; omega) | omega)))⟩
  · obtain ⟨e1, he1⟩ : ∃ e1, checkTrackP t = e1 := ⟨_, rfl⟩
    have hv : viewErrP feB intB t r = e1 := by
      have h0 : first2 (checkTrackP t) (relErrP feB r) = e1 := by unfold first2; rw [if_neg ht, he1]
      unfold viewErrP; rw [h0, if_neg (by rw [← he1]; exact ht)]
    rw [hv] at he
    subst he
    rw [he1] at ht
    have HT := Lib.hid he1
    clear he1 hv hs
    go_enter Try.func35, Try.ntmps35
    go_wp2_with (first | (go_at_call 20; refine (rCheckTrack t _ HT.out).mono ?_; rintro e w' ⟨rfl, hb⟩; obtain ⟨pp, rfl⟩ := later_of_below hb; clear hb))
    go_ret
    exact ⟨rfl, (by (repeat' (first | with_reducible exact Below.refl _ _ | (with_reducible refine below_later_of ?_ ?_ _) | (with_reducible refine Below.alloc ?_ ?_ _) | (with_reducible refine Below.setCell ?_ ?_ _) | (with_reducible refine Below.drew ?_) | (simp; done) | (simp; omega) | omega)))⟩
end Go.Proofs.Ytokpdmlmlkkekaa
