/- InPixel: the program. -/
import Derived.Test.YtokpdmlmlkkekaaZA
import Derived.Test.YtokpdmlmlkkekaaZT
import Derived.Test.YtokpdmlmlkkekaaZK
namespace Go.Proofs.Ytokpdmlmlkkekaa
set_option linter.unusedVariables false
open Go.RowKit
def offLoP (t : Trk) (a b : Int) : Int := if t.east then offP t a else offP t b
def offHiP (t : Trk) (a b : Int) : Int := if t.east then offP t b else offP t a
set_option maxHeartbeats 1000000 in
theorem offs_any (t : Trk) (a b : Int) (w : World) (h1 : -100000000 ≤ t.sx) (h2 : t.sx ≤ 100000000) (a1 : -1000000000 ≤ a) (a2 : a ≤ 1000000000) (b1 : -1000000000 ≤ b) (b2 : b ≤ 1000000000) :
    Calls Try.prog 134 #[.agg #[.int .i64 t.sx, .int .i64 t.sy, .int .i64 t.sz, .int .i64 t.step, .int .i64 t.lines, .int .i64 t.near, .int .i64 t.bin, .int .i64 t.bins, .bool t.east], .agg #[.int .i64 a, .int .i64 b]] w fun e w' => e = .returned (.agg #[.int .i64 (offLoP t a b), .int .i64 (offHiP t a b)]) ∧ Below w.heap.size w w' := by
  rcases (show t.east = false ∨ t.east = true by cases t.east <;> simp) with he | he
  · rw [show offLoP t a b = offP t b by unfold offLoP; rw [he]; rfl, show offHiP t a b = offP t a by unfold offHiP; rw [he]; rfl]
    have HO := Lib.hid (show ∀ (x : Int) (w : World), -1000000000 ≤ x → x ≤ 1000000000 → Calls Try.prog 94 #[.agg #[.int .i64 t.sx, .int .i64 t.sy, .int .i64 t.sz, .int .i64 t.step, .int .i64 t.lines, .int .i64 t.near, .int .i64 t.bin, .int .i64 t.bins, .bool false], .int .i64 x] w fun e w' => e = .returned (.int .i64 (offP t x)) ∧ Below w.heap.size w w' from
      fun x w h3 h4 => by have := off_any t x w h1 h2 h3 h4; rwa [he] at this)
    go_enter Try.func134, Try.ntmps134
    go_wp2
    refine wp_region_calm_tail 9 (by kernel_rfl) (by kernel_rfl) ?_
    simp only [List.take_succ_cons, List.take_zero, List.drop_succ_cons, List.drop_zero]
    repeat (go_big_quiet_step ((go_at_call 94; exact calm_of (HO.out _ _ (by omega) (by omega)))))
    refine wpQuiet_nil ?_
    rintro _ ⟨p1, rfl⟩
    go_wp2
    refine bodyPost_ret ?_ rfl ⟨rfl, (by (repeat' (first | with_reducible exact Below.refl _ _ | (with_reducible refine below_later_of ?_ ?_ _) | (with_reducible refine Below.alloc ?_ ?_ _) | (with_reducible refine Below.setCell ?_ ?_ _) | (with_reducible refine Below.drew ?_) | (simp; done) | (simp; omega) | omega)))⟩
    first | (simp [results, Try.results134, go_sem]; done) | simp [results, Try.results134, go_sem, ↓IntWalk.iteOmega]
  · rw [show offLoP t a b = offP t a by unfold offLoP; rw [he]; rfl, show offHiP t a b = offP t b by unfold offHiP; rw [he]; rfl]
    have HO := Lib.hid (show ∀ (x : Int) (w : World), -1000000000 ≤ x → x ≤ 1000000000 → Calls Try.prog 94 #[.agg #[.int .i64 t.sx, .int .i64 t.sy, .int .i64 t.sz, .int .i64 t.step, .int .i64 t.lines, .int .i64 t.near, .int .i64 t.bin, .int .i64 t.bins, .bool true], .int .i64 x] w fun e w' => e = .returned (.int .i64 (offP t x)) ∧ Below w.heap.size w w' from
      fun x w h3 h4 => by have := off_any t x w h1 h2 h3 h4; rwa [he] at this)
    go_enter Try.func134, Try.ntmps134
    go_wp2
    refine wp_region_calm_tail 9 (by kernel_rfl) (by kernel_rfl) ?_
    simp only [List.take_succ_cons, List.take_zero, List.drop_succ_cons, List.drop_zero]
    repeat (go_big_quiet_step ((go_at_call 94; exact calm_of (HO.out _ _ (by omega) (by omega)))))
    refine wpQuiet_nil ?_
    rintro _ ⟨p1, rfl⟩
    go_wp2
    refine bodyPost_ret ?_ rfl ⟨rfl, (by (repeat' (first | with_reducible exact Below.refl _ _ | (with_reducible refine below_later_of ?_ ?_ _) | (with_reducible refine Below.alloc ?_ ?_ _) | (with_reducible refine Below.setCell ?_ ?_ _) | (with_reducible refine Below.drew ?_) | (simp; done) | (simp; omega) | omega)))⟩
    first | (simp [results, Try.results134, go_sem]; done) | simp [results, Try.results134, go_sem, ↓IntWalk.iteOmega]
set_option maxHeartbeats 1000000 in
theorem slants_any (t : Trk) (n : Int) (w : World) (h1 : 0 ≤ t.near) (h2 : t.near ≤ 100000000) (m1 : 0 ≤ t.bin * n) (m2 : t.bin * n ≤ 100000000) (k1 : 0 ≤ t.bin) (k2 : t.bin ≤ 1000) :
    Calls Try.prog 135 #[.agg #[.int .i64 t.sx, .int .i64 t.sy, .int .i64 t.sz, .int .i64 t.step, .int .i64 t.lines, .int .i64 t.near, .int .i64 t.bin, .int .i64 t.bins, .bool t.east], .int .i64 n] w fun e w' => e = .returned (.agg #[.int .i64 (t.near + t.bin * n), .int .i64 (t.near + t.bin * n + t.bin - 1)]) ∧ Below w.heap.size w w' := by
  go_enter Try.func135, Try.ntmps135
  go_wp2
  refine bodyPost_ret ?_ rfl ⟨rfl, (by (repeat' (first | with_reducible exact Below.refl _ _ | (with_reducible refine below_later_of ?_ ?_ _) | (with_reducible refine Below.alloc ?_ ?_ _) | (with_reducible refine Below.setCell ?_ ?_ _) | (with_reducible refine Below.drew ?_) | (simp; done) | (simp; omega) | omega)))⟩
  first | (simp [results, Try.results135, go_sem]; done) | simp [results, Try.results135, go_sem, ↓IntWalk.iteOmega]
def s1P (t : Trk) (q : Pix) (b : Bx) : Int := rootP (max 1 (offLoP t b.x1 b.x2) * max 1 (offLoP t b.x1 b.x2) + depthP t q.hi * depthP t q.hi)
def s2P (t : Trk) (q : Pix) (b : Bx) : Int := rootP (offHiP t b.x1 b.x2 * offHiP t b.x1 b.x2 + depthP t q.lo * depthP t q.lo)
def l1P (t : Trk) (b : Bx) : Int := min (lineP t b.y1) (lineP t b.y2)
def l2P (t : Trk) (b : Bx) : Int := max (lineP t b.y1) (lineP t b.y2)
/-- The answer of InPixel, for a right track, a right pixel, a right box. -/
def inPixelP (t : Trk) (q : Pix) (b : Bx) : Int :=
  if offHiP t b.x1 b.x2 < 1 then 0
  else if !inR (l1P t b) (l2P t b) q.line || (decide (s2P t q b < t.near + t.bin * q.bin) || decide (t.near + t.bin * q.bin + t.bin - 1 < s1P t q b)) then 0
  else if decide (1 ≤ offLoP t b.x1 b.x2) && (decide (l1P t b = l2P t b) && (decide (t.near + t.bin * q.bin ≤ s1P t q b) && decide (s2P t q b ≤ t.near + t.bin * q.bin + t.bin - 1))) then 2 else 1
def inPixelErrP (t : Trk) (q : Pix) (b : Bx) : Int := if checkTrackP t = 0 then first2 (checkPixelP t q) (boxErrP b) else checkTrackP t
set_option maxRecDepth 20000 in
set_option maxHeartbeats 4000000 in
theorem inPixel_bad (t : Trk) (q : Pix) (b : Bx) (w : World) {e0 : Int} (he : inPixelErrP t q b = e0) (hz : e0 ≠ 0) :
    Calls Try.prog 66 #[.agg #[.int .i64 t.sx, .int .i64 t.sy, .int .i64 t.sz, .int .i64 t.step, .int .i64 t.lines, .int .i64 t.near, .int .i64 t.bin, .int .i64 t.bins, .bool t.east], .agg #[.int .i64 q.line, .int .i64 q.bin, .int .i64 q.lo, .int .i64 q.hi], .agg #[.int .i64 b.x1, .int .i64 b.x2, .int .i64 b.y1, .int .i64 b.y2]] w fun e w' => e = .returned (.tuple #[.int .i64 0, .int .i64 e0]) ∧ Below w.heap.size w w' := by
  unfold inPixelErrP at he
  by_cases ht : checkTrackP t = 0
  · rw [if_pos ht] at he
    obtain ⟨-, -, -, -, -, -, -, -, -, l1, l2, -, -, -, -, n1, n2⟩ := checkTrackP_ok ht
    have HT := Lib.hid ht
    have HF := Lib.hid he
    obtain ⟨ep, hp⟩ : ∃ ep, checkPixelP t q = ep := ⟨_, rfl⟩
    obtain ⟨eb, hb⟩ : ∃ eb, boxErrP b = eb := ⟨_, rfl⟩
    have HP := Lib.hid hp
    have HB := Lib.hid hb
    rw [hp, hb] at he
    have HF := Lib.hid he
    clear ht he hp hb
    go_enter Try.func66, Try.ntmps66
    go_wp2_with (first | (go_at_call 26; refine (checkTrack_e t _ HT.out).mono ?_; rintro e w' ⟨rfl, hb⟩; obtain ⟨pp, rfl⟩ := later_of_below hb; clear hb))
    go_region_held3 (fun w' => w'.cell? ⟨w.heap.size + 1 + 1 + 1, 0, none⟩ = some (.int .i64 t.sx) ∧ w'.cell? ⟨w.heap.size + 1 + 1 + 1, 1, none⟩ = some (.int .i64 t.sy) ∧ w'.cell? ⟨w.heap.size + 1 + 1 + 1, 2, none⟩ = some (.int .i64 t.sz) ∧ w'.cell? ⟨w.heap.size + 1 + 1 + 1, 3, none⟩ = some (.int .i64 t.step) ∧ w'.cell? ⟨w.heap.size + 1 + 1 + 1, 4, none⟩ = some (.int .i64 t.lines) ∧ w'.cell? ⟨w.heap.size + 1 + 1 + 1, 5, none⟩ = some (.int .i64 t.near) ∧ w'.cell? ⟨w.heap.size + 1 + 1 + 1, 6, none⟩ = some (.int .i64 t.bin) ∧ w'.cell? ⟨w.heap.size + 1 + 1 + 1, 7, none⟩ = some (.int .i64 t.bins) ∧ w'.cell? ⟨w.heap.size + 1 + 1 + 1, 8, none⟩ = some (.bool t.east) ∧ w'.cell? ⟨w.heap.size + 1, 0, none⟩ = some (.int .i64 q.line) ∧ w'.cell? ⟨w.heap.size + 1, 1, none⟩ = some (.int .i64 q.bin) ∧ w'.cell? ⟨w.heap.size + 1, 2, none⟩ = some (.int .i64 q.lo) ∧ w'.cell? ⟨w.heap.size + 1, 3, none⟩ = some (.int .i64 q.hi) ∧ w'.cell? ⟨w.heap.size + 1 + 1, 0, none⟩ = some (.int .i64 b.x1) ∧ w'.cell? ⟨w.heap.size + 1 + 1, 1, none⟩ = some (.int .i64 b.x2) ∧ w'.cell? ⟨w.heap.size + 1 + 1, 2, none⟩ = some (.int .i64 b.y1) ∧ w'.cell? ⟨w.heap.size + 1 + 1, 3, none⟩ = some (.int .i64 b.y2)) (first | ((first | (simp [go_sem]; done) | simp [go_sem, ↓IntWalk.iteOmega]); done)) (first | (go_at_call 79; refine (checkPixel_e t q _ HP.out (by omega) (by omega) (by omega) (by omega)).mono ?_; rintro e w' ⟨rfl, hb⟩; obtain ⟨pp, rfl⟩ := later_of_below hb; clear hb) | (go_at_call 132; refine (check_any b _ HB.out).mono ?_; rintro e w' ⟨rfl, hb⟩; obtain ⟨pp, rfl⟩ := later_of_below hb; clear hb) | (go_at_call 109; refine (first_e _ _ _ _ HF.out (by (first | (simp [go_sem]; done) | simp [go_sem, ↓IntWalk.iteOmega])) (by (first | (simp [go_sem]; done) | simp [go_sem, ↓IntWalk.iteOmega]))).mono ?_; rintro e w' ⟨rfl, rfl⟩))
    go_wp2
    go_ret2
    exact ⟨rfl, (by (repeat' (first | with_reducible exact Below.refl _ _ | (with_reducible refine below_later_of ?_ ?_ _) | (with_reducible refine Below.alloc ?_ ?_ _) | (with_reducible refine Below.setCell ?_ ?_ _) | (with_reducible refine Below.drew ?_) | (simp; done) | (simp; omega) | omega)))⟩
  · rw [if_neg ht] at he
    have HT := Lib.hid he
    clear he ht
    go_enter Try.func66, Try.ntmps66
    go_wp2_with (first | (go_at_call 26; refine (checkTrack_e t _ HT.out).mono ?_; rintro e w' ⟨rfl, hb⟩; obtain ⟨pp, rfl⟩ := later_of_below hb; clear hb))
    go_ret2
    exact ⟨rfl, (by (repeat' (first | with_reducible exact Below.refl _ _ | (with_reducible refine below_later_of ?_ ?_ _) | (with_reducible refine Below.alloc ?_ ?_ _) | (with_reducible refine Below.setCell ?_ ?_ _) | (with_reducible refine Below.drew ?_) | (simp; done) | (simp; omega) | omega)))⟩
end Go.Proofs.Ytokpdmlmlkkekaa
