import Derived.Test.YtokpdmlmlkkekaaZA
import Derived.Test.YtokpdmlmlkkekaaZT
import Derived.Test.YtokpdmlmlkkekaaZK
import Derived.Deep.CutRange
import Derived.Test.YtokpdmlmlkkekaaZR
/- InPixel: the program. -/
namespace Go.Proofs.Ytokpdmlmlkkekaa
set_option linter.unusedVariables false
open Go.RowKit
def offLoP (t : Trk) (a b : Int) : Int := if t.east then offP t a else offP t b
def offHiP (t : Trk) (a b : Int) : Int := if t.east then offP t b else offP t a
set_option maxHeartbeats 1000000 in
theorem offs_any (t : Trk) (a b : Int) (w : World) (h1 : -100000000 ≤ t.sx) (h2 : t.sx ≤ 100000000) (a1 : -1000000000 ≤ a) (a2 : a ≤ 1000000000) (b1 : -1000000000 ≤ b) (b2 : b ≤ 1000000000) :
    Calls Try.prog 134 #[.agg #[.int .i64 t.sx, .int .i64 t.sy, .int .i64 t.sz, .int .i64 t.step, .int .i64 t.lines, .int .i64 t.near, .int .i64 t.bin, .int .i64 t.bins, .bool t.east], .agg #[.int .i64 a, .int .i64 b]] w fun e w' => e = .returned (.agg #[.int .i64 (offLoP t a b), .int .i64 (offHiP t a b)]) ∧ Below w.heap.size w w' := by
  rcases (show t.east = false ∨ t.east = true by cases t.east <;> simp) with he | he
  · rw [show offLoP t a b = offP t b by unfold offLoP; rw [he]; rfl, show offHiP t a b = offP t a by unfold offHiP; rw [he]; rfl]
    have HO := Lib.hid (show ∀ (x : Int) (w : World), -1000000000 ≤ x → x ≤ 1000000000 → Calls Try.prog 94 #[.agg #[.int .i64 t.sx, .int .i64 t.sy, .int .i64 t.sz, .int .i64 t.step, .int .i64 t.lines, .int .i64 t.near, .int .i64 t.bin, .int .i64 t.bins, .bool false], .int .i64 x] w fun e w' => e = .returned (.int .i64 (offP t x)) ∧ Below w.heap.size w w' from
      fun x w h3 h4 => by have := off_any t x w h1 h2 h3 h4; rwa [he] at this)
    go_enter Try.func134, Try.ntmps134
    go_wp2
    refine wp_region_calm_tail 9 (by kernel_rfl) (by kernel_rfl) ?_
    simp only [List.take_succ_cons, List.take_zero, List.drop_succ_cons, List.drop_zero]
    repeat (go_big_quiet_step ((go_at_call 94; exact calm_of (HO.out _ _ (by omega) (by omega)))))
    refine wpQuiet_nil ?_
    rintro _ ⟨p1, rfl⟩
    go_wp2
    refine bodyPost_ret ?_ rfl ⟨rfl, (by (repeat' (first | with_reducible exact Below.refl _ _ | (with_reducible refine below_later_of ?_ ?_ _) | (with_reducible refine Below.alloc ?_ ?_ _) | (with_reducible refine Below.setCell ?_ ?_ _) | (with_reducible refine Below.drew ?_) | (simp; done) | (simp; omega) | omega)))⟩
    first | (simp [results, Try.results134, go_sem]; done) | simp [results, Try.results134, go_sem, ↓IntWalk.iteOmega]
  · rw [show offLoP t a b = offP t a by unfold offLoP; rw [he]; rfl, show offHiP t a b = offP t b by unfold offHiP; rw [he]; rfl]
    have HO := Lib.hid (show ∀ (x : Int) (w : World), -1000000000 ≤ x → x ≤ 1000000000 → Calls Try.prog 94 #[.agg #[.int .i64 t.sx, .int .i64 t.sy, .int .i64 t.sz, .int .i64 t.step, .int .i64 t.lines, .int .i64 t.near, .int .i64 t.bin, .int .i64 t.bins, .bool true], .int .i64 x] w fun e w' => e = .returned (.int .i64 (offP t x)) ∧ Below w.heap.size w w' from
      fun x w h3 h4 => by have := off_any t x w h1 h2 h3 h4; rwa [he] at this)
    go_enter Try.func134, Try.ntmps134
    go_wp2
    refine wp_region_calm_tail 9 (by kernel_rfl) (by kernel_rfl) ?_
    simp only [List.take_succ_cons, List.take_zero, List.drop_succ_cons, List.drop_zero]
    repeat (go_big_quiet_step ((go_at_call 94; exact calm_of (HO.out _ _ (by omega) (by omega)))))
    refine wpQuiet_nil ?_
    rintro _ ⟨p1, rfl⟩
    go_wp2
    refine bodyPost_ret ?_ rfl ⟨rfl, (by (repeat' (first | with_reducible exact Below.refl _ _ | (with_reducible refine below_later_of ?_ ?_ _) | (with_reducible refine Below.alloc ?_ ?_ _) | (with_reducible refine Below.setCell ?_ ?_ _) | (with_reducible refine Below.drew ?_) | (simp; done) | (simp; omega) | omega)))⟩
    first | (simp [results, Try.results134, go_sem]; done) | simp [results, Try.results134, go_sem, ↓IntWalk.iteOmega]
set_option maxHeartbeats 1000000 in
theorem slants_any (t : Trk) (n : Int) (w : World) (h1 : 0 ≤ t.near) (h2 : t.near ≤ 100000000) (m1 : 0 ≤ t.bin * n) (m2 : t.bin * n ≤ 100000000) (k1 : 0 ≤ t.bin) (k2 : t.bin ≤ 1000) :
    Calls Try.prog 135 #[.agg #[.int .i64 t.sx, .int .i64 t.sy, .int .i64 t.sz, .int .i64 t.step, .int .i64 t.lines, .int .i64 t.near, .int .i64 t.bin, .int .i64 t.bins, .bool t.east], .int .i64 n] w fun e w' => e = .returned (.agg #[.int .i64 (t.near + t.bin * n), .int .i64 (t.near + t.bin * n + t.bin - 1)]) ∧ Below w.heap.size w w' := by
  go_enter Try.func135, Try.ntmps135
  go_wp2
  refine bodyPost_ret ?_ rfl ⟨rfl, (by (repeat' (first | with_reducible exact Below.refl _ _ | (with_reducible refine below_later_of ?_ ?_ _) | (with_reducible refine Below.alloc ?_ ?_ _) | (with_reducible refine Below.setCell ?_ ?_ _) | (with_reducible refine Below.drew ?_) | (simp; done) | (simp; omega) | omega)))⟩
  first | (simp [results, Try.results135, go_sem]; done) | simp [results, Try.results135, go_sem, ↓IntWalk.iteOmega]
def s1P (t : Trk) (q : Pix) (b : Bx) : Int := rootP (max 1 (offLoP t b.x1 b.x2) * max 1 (offLoP t b.x1 b.x2) + depthP t q.hi * depthP t q.hi)
def s2P (t : Trk) (q : Pix) (b : Bx) : Int := rootP (offHiP t b.x1 b.x2 * offHiP t b.x1 b.x2 + depthP t q.lo * depthP t q.lo)
def l1P (t : Trk) (b : Bx) : Int := min (lineP t b.y1) (lineP t b.y2)
def l2P (t : Trk) (b : Bx) : Int := max (lineP t b.y1) (lineP t b.y2)
/-- The answer of InPixel, for a right track, a right pixel, a right box. -/
def inPixelP (t : Trk) (q : Pix) (b : Bx) : Int :=
  if offHiP t b.x1 b.x2 < 1 then 0
  else if !inR (l1P t b) (l2P t b) q.line || (decide (s2P t q b < t.near + t.bin * q.bin) || decide (t.near + t.bin * q.bin + t.bin - 1 < s1P t q b)) then 0
  else if decide (1 ≤ offLoP t b.x1 b.x2) && (decide (l1P t b = l2P t b) && (decide (t.near + t.bin * q.bin ≤ s1P t q b) && decide (s2P t q b ≤ t.near + t.bin * q.bin + t.bin - 1))) then 2 else 1
def inPixelErrP (t : Trk) (q : Pix) (b : Bx) : Int := if checkTrackP t = 0 then first2 (checkPixelP t q) (boxErrP b) else checkTrackP t
set_option maxRecDepth 20000 in
set_option maxHeartbeats 4000000 in
theorem inPixel_bad (t : Trk) (q : Pix) (b : Bx) (w : World) {e0 : Int} (he : inPixelErrP t q b = e0) (hz : e0 ≠ 0) :
    Calls Try.prog 66 #[.agg #[.int .i64 t.sx, .int .i64 t.sy, .int .i64 t.sz, .int .i64 t.step, .int .i64 t.lines, .int .i64 t.near, .int .i64 t.bin, .int .i64 t.bins, .bool t.east], .agg #[.int .i64 q.line, .int .i64 q.bin, .int .i64 q.lo, .int .i64 q.hi], .agg #[.int .i64 b.x1, .int .i64 b.x2, .int .i64 b.y1, .int .i64 b.y2]] w fun e w' => e = .returned (.tuple #[.int .i64 0, .int .i64 e0]) ∧ Below w.heap.size w w' := by
  unfold inPixelErrP at he
  by_cases ht : checkTrackP t = 0
  · rw [if_pos ht] at he
    obtain ⟨-, -, -, -, -, -, -, -, -, l1, l2, -, -, -, -, n1, n2⟩ := checkTrackP_ok ht
    have HT := Lib.hid ht
    have HF := Lib.hid he
    obtain ⟨ep, hp⟩ : ∃ ep, checkPixelP t q = ep := ⟨_, rfl⟩
    obtain ⟨eb, hb⟩ : ∃ eb, boxErrP b = eb := ⟨_, rfl⟩
    have HP := Lib.hid hp
    have HB := Lib.hid hb
    rw [hp, hb] at he
    have HF := Lib.hid he
    clear ht he hp hb
    go_enter Try.func66, Try.ntmps66
    go_wp2_with (first | (go_at_call 26; refine (checkTrack_e t _ HT.out).mono ?_; rintro e w' ⟨rfl, hb⟩; obtain ⟨pp, rfl⟩ := later_of_below hb; clear hb))
    go_region_held3 (fun w' => w'.cell? ⟨w.heap.size + 1 + 1 + 1, 0, none⟩ = some (.int .i64 t.sx) ∧ w'.cell? ⟨w.heap.size + 1 + 1 + 1, 1, none⟩ = some (.int .i64 t.sy) ∧ w'.cell? ⟨w.heap.size + 1 + 1 + 1, 2, none⟩ = some (.int .i64 t.sz) ∧ w'.cell? ⟨w.heap.size + 1 + 1 + 1, 3, none⟩ = some (.int .i64 t.step) ∧ w'.cell? ⟨w.heap.size + 1 + 1 + 1, 4, none⟩ = some (.int .i64 t.lines) ∧ w'.cell? ⟨w.heap.size + 1 + 1 + 1, 5, none⟩ = some (.int .i64 t.near) ∧ w'.cell? ⟨w.heap.size + 1 + 1 + 1, 6, none⟩ = some (.int .i64 t.bin) ∧ w'.cell? ⟨w.heap.size + 1 + 1 + 1, 7, none⟩ = some (.int .i64 t.bins) ∧ w'.cell? ⟨w.heap.size + 1 + 1 + 1, 8, none⟩ = some (.bool t.east) ∧ w'.cell? ⟨w.heap.size + 1, 0, none⟩ = some (.int .i64 q.line) ∧ w'.cell? ⟨w.heap.size + 1, 1, none⟩ = some (.int .i64 q.bin) ∧ w'.cell? ⟨w.heap.size + 1, 2, none⟩ = some (.int .i64 q.lo) ∧ w'.cell? ⟨w.heap.size + 1, 3, none⟩ = some (.int .i64 q.hi) ∧ w'.cell? ⟨w.heap.size + 1 + 1, 0, none⟩ = some (.int .i64 b.x1) ∧ w'.cell? ⟨w.heap.size + 1 + 1, 1, none⟩ = some (.int .i64 b.x2) ∧ w'.cell? ⟨w.heap.size + 1 + 1, 2, none⟩ = some (.int .i64 b.y1) ∧ w'.cell? ⟨w.heap.size + 1 + 1, 3, none⟩ = some (.int .i64 b.y2)) (first | ((first | (simp [go_sem]; done) | simp [go_sem, ↓IntWalk.iteOmega]); done)) (first | (go_at_call 79; refine (checkPixel_e t q _ HP.out (by omega) (by omega) (by omega) (by omega)).mono ?_; rintro e w' ⟨rfl, hb⟩; obtain ⟨pp, rfl⟩ := later_of_below hb; clear hb) | (go_at_call 132; refine (check_any b _ HB.out).mono ?_; rintro e w' ⟨rfl, hb⟩; obtain ⟨pp, rfl⟩ := later_of_below hb; clear hb) | (go_at_call 109; refine (first_e _ _ _ _ HF.out (by (first | (simp [go_sem]; done) | simp [go_sem, ↓IntWalk.iteOmega])) (by (first | (simp [go_sem]; done) | simp [go_sem, ↓IntWalk.iteOmega]))).mono ?_; rintro e w' ⟨rfl, rfl⟩))
    go_wp2
    go_ret2
    exact ⟨rfl, (by (repeat' (first | with_reducible exact Below.refl _ _ | (with_reducible refine below_later_of ?_ ?_ _) | (with_reducible refine Below.alloc ?_ ?_ _) | (with_reducible refine Below.setCell ?_ ?_ _) | (with_reducible refine Below.drew ?_) | (simp; done) | (simp; omega) | omega)))⟩
  · rw [if_neg ht] at he
    have HT := Lib.hid he
    clear he ht
    go_enter Try.func66, Try.ntmps66
    go_wp2_with (first | (go_at_call 26; refine (checkTrack_e t _ HT.out).mono ?_; rintro e w' ⟨rfl, hb⟩; obtain ⟨pp, rfl⟩ := later_of_below hb; clear hb))
    go_ret2
    exact ⟨rfl, (by (repeat' (first | with_reducible exact Below.refl _ _ | (with_reducible refine below_later_of ?_ ?_ _) | (with_reducible refine Below.alloc ?_ ?_ _) | (with_reducible refine Below.setCell ?_ ?_ _) | (with_reducible refine Below.drew ?_) | (simp; done) | (simp; omega) | omega)))⟩
end Go.Proofs.Ytokpdmlmlkkekaa

/- InPixel: the program, its answer. -/
namespace Go.Proofs.Ytokpdmlmlkkekaa
set_option linter.unusedVariables false
open Go.RowKit
theorem wp_world3 {P : Program} {c : Code} {Q : Exit → Act → World → Prop} {a : Act} {w : World} (F : World → Prop) (hf : F w) (h : ∀ W, F W → Code.wp P c Q a W) : Code.wp P c Q a w := h w hf
theorem then_world {K : Exit → Act → World → Prop} {G : (Exit → Act → World → Prop) → Exit → Act → World → Prop} {a : Act} {w : World} (F : World → Prop) (hf : F w) (h : ∀ W, F W → G K .normal a W) : G K .normal a w := h w hf
/-- Block B holds a track, a pixel, a box. -/
def TrackAt (w : World) (B : Nat) (t : Trk) : Prop := w.cell? ⟨B, 0, none⟩ = some (.int .i64 t.sx) ∧ w.cell? ⟨B, 1, none⟩ = some (.int .i64 t.sy) ∧ w.cell? ⟨B, 2, none⟩ = some (.int .i64 t.sz) ∧ w.cell? ⟨B, 3, none⟩ = some (.int .i64 t.step) ∧ w.cell? ⟨B, 4, none⟩ = some (.int .i64 t.lines) ∧ w.cell? ⟨B, 5, none⟩ = some (.int .i64 t.near) ∧ w.cell? ⟨B, 6, none⟩ = some (.int .i64 t.bin) ∧ w.cell? ⟨B, 7, none⟩ = some (.int .i64 t.bins) ∧ w.cell? ⟨B, 8, none⟩ = some (.bool t.east)
def IntsAt4 (w : World) (B : Nat) (a b c d : Int) : Prop := w.cell? ⟨B, 0, none⟩ = some (.int .i64 a) ∧ w.cell? ⟨B, 1, none⟩ = some (.int .i64 b) ∧ w.cell? ⟨B, 2, none⟩ = some (.int .i64 c) ∧ w.cell? ⟨B, 3, none⟩ = some (.int .i64 d)
def IntsAt2 (w : World) (B : Nat) (a b : Int) : Prop := w.cell? ⟨B, 0, none⟩ = some (.int .i64 a) ∧ w.cell? ⟨B, 1, none⟩ = some (.int .i64 b)
theorem TrackAt.below {w w' : World} {B C : Nat} {t : Trk} (h : TrackAt w B t) (hB : B < C) (hw : Below C w w') : TrackAt w' B t := by
  obtain ⟨h0, h1, h2, h3, h4, h5, h6, h7, h8⟩ := h
  exact ⟨(hw.cell hB).trans h0, (hw.cell hB).trans h1, (hw.cell hB).trans h2, (hw.cell hB).trans h3, (hw.cell hB).trans h4, (hw.cell hB).trans h5, (hw.cell hB).trans h6, (hw.cell hB).trans h7, (hw.cell hB).trans h8⟩
theorem IntsAt4.below {w w' : World} {B C : Nat} {a b c d : Int} (h : IntsAt4 w B a b c d) (hB : B < C) (hw : Below C w w') : IntsAt4 w' B a b c d := by
  obtain ⟨h0, h1, h2, h3⟩ := h
  exact ⟨(hw.cell hB).trans h0, (hw.cell hB).trans h1, (hw.cell hB).trans h2, (hw.cell hB).trans h3⟩
theorem IntsAt2.below {w w' : World} {B C : Nat} {a b : Int} (h : IntsAt2 w B a b) (hB : B < C) (hw : Below C w w') : IntsAt2 w' B a b := by
  obtain ⟨h0, h1⟩ := h
  exact ⟨(hw.cell hB).trans h0, (hw.cell hB).trans h1⟩
theorem lineP_bd {t : Trk} {y : Int} (o : t.Ok) (h1 : -100000000 ≤ y) (h2 : y ≤ 100000000) : -1000000000 ≤ lineP t y ∧ lineP t y ≤ 1000000000 := by
  obtain ⟨h_sx1, h_sx2, h_sy1, h_sy2, h_sz1, h_sz2, h_st0, h_st1, h_st2, -, -, -, -, -, -, -, -⟩ := o
  unfold lineP floorP
  have key : ∀ n c : Int, 1 ≤ c → -200000000 ≤ n → n ≤ 200000000 → -1000000000 ≤ n / c ∧ n / c ≤ 1000000000 := by
    intro n c hc g1 g2
    constructor
    · have : -200000000 ≤ n / c := (Int.le_ediv_iff_mul_le (by omega)).2 (by
        have : 200000000 * 1 ≤ 200000000 * c := Int.mul_le_mul_of_nonneg_left hc (by omega)
        rw [Int.neg_mul]; omega)
      omega
    · rcases Int.le_total 0 n with h | h
      · have := Int.ediv_le_self c h; omega
      · have := Int.ediv_le_ediv (c := c) (by omega) h
        rw [Int.zero_ediv] at this; omega
  split
  · exact key _ _ (by omega) (by omega) (by omega)
  · exact key _ _ (by omega) (by omega) (by omega)
theorem offs_bd {t : Trk} {b : Bx} (o : t.Ok) (p : b.Ok) : -200000000 ≤ offLoP t b.x1 b.x2 ∧ offLoP t b.x1 b.x2 ≤ 200000000 ∧ -200000000 ≤ offHiP t b.x1 b.x2 ∧ offHiP t b.x1 b.x2 ≤ 200000000 ∧ offLoP t b.x1 b.x2 ≤ offHiP t b.x1 b.x2 := by
  have := o.sx1; have := o.sx2
  obtain ⟨x1a, x1b, x2a, x2b, -, -, -, -, xo, -⟩ := p
  unfold offLoP offHiP offP
  cases t.east <;> simp <;> omega
set_option maxRecDepth 20000 in
set_option maxHeartbeats 8000000 in
theorem inPixel_ok (t : Trk) (q : Pix) (b : Bx) (w : World) (ht : checkTrackP t = 0) (hp : checkPixelP t q = 0) (hb : boxErrP b = 0) :
    Calls Try.prog 66 #[.agg #[.int .i64 t.sx, .int .i64 t.sy, .int .i64 t.sz, .int .i64 t.step, .int .i64 t.lines, .int .i64 t.near, .int .i64 t.bin, .int .i64 t.bins, .bool t.east], .agg #[.int .i64 q.line, .int .i64 q.bin, .int .i64 q.lo, .int .i64 q.hi], .agg #[.int .i64 b.x1, .int .i64 b.x2, .int .i64 b.y1, .int .i64 b.y2]] w fun e w' => e = .returned (.tuple #[.int .i64 (inPixelP t q b), .int .i64 0]) ∧ Below w.heap.size w w' := by
  have ot := checkTrackP_ok ht
  have op := checkPixelP_ok hp
  have ob := boxErrP_ok hb
  obtain ⟨o1, o2, o3, o4, o5⟩ := offs_bd ot ob
  obtain ⟨m1, m2, -, -, -, -, d1, d2, d3, d4⟩ := box_bd ot op
  have OT := Lib.hid ot
  have HT := Lib.hid ht
  have HP := Lib.hid hp
  have HB := Lib.hid hb
  obtain ⟨sx1, sx2, sy1, sy2, sz1, sz2, -, -, -, l1, l2, ne1, ne2, bi1, bi2, n1, n2⟩ := ot
  obtain ⟨-, -, b1, b2, lo1, lo2, hi1, hi2, hord, htop⟩ := op
  obtain ⟨x1a, x1b, x2a, x2b, y1a, y1b, y2a, y2b, xo, yo⟩ := ob
  have e1 : offLoP t b.x1 b.x2 ≤ offHiP t b.x1 b.x2 := o5
  have HZ := Lib.hid (show inPixelP t q b = if offHiP t b.x1 b.x2 < 1 then 0
    else if !inR (l1P t b) (l2P t b) q.line || (decide (s2P t q b < t.near + t.bin * q.bin) || decide (t.near + t.bin * q.bin + t.bin - 1 < s1P t q b)) then 0
    else if decide (1 ≤ offLoP t b.x1 b.x2) && (decide (l1P t b = l2P t b) && (decide (t.near + t.bin * q.bin ≤ s1P t q b) && decide (s2P t q b ≤ t.near + t.bin * q.bin + t.bin - 1))) then 2 else 1 from rfl)
  have q1 := sq_bd (max 1 (offLoP t b.x1 b.x2)) 200000000 (by omega) (by omega)
  have q2 := sq_bd (offHiP t b.x1 b.x2) 200000000 (by omega) (by omega)
  obtain ⟨q11, q12⟩ := q1
  obtain ⟨q21, q22⟩ := q2
  obtain ⟨u1, u2⟩ := lineP_bd OT.out y1a y1b
  obtain ⟨u3, u4⟩ := lineP_bd OT.out y2a y2b
  have r1 := rootP_le (max 1 (offLoP t b.x1 b.x2) * max 1 (offLoP t b.x1 b.x2) + depthP t q.hi * depthP t q.hi) (by omega) (by omega)
  have r2 := rootP_le (offHiP t b.x1 b.x2 * offHiP t b.x1 b.x2 + depthP t q.lo * depthP t q.lo) (by omega) (by omega)
  have HR := Lib.hid (show ∀ (a c : Int) (w : World), 0 ≤ a * a → a * a ≤ 200000000 * 200000000 → 0 ≤ c * c → c * c ≤ 10020010000000000 → Calls Try.prog 82 #[.int .i64 (IntKind.i64.wrap (IntKind.i64.wrap (a * a) + IntKind.i64.wrap (c * c)))] w fun e w' => e = .returned (.int .i64 (rootP (a * a + c * c))) ∧ w = w' from fun a c w g1 g2 g3 g4 => by
    rw [IntWalk.i64_in (a * a) (by omega), IntWalk.i64_in (c * c) (by omega), IntWalk.i64_in _ (by omega)]
    exact root_any _ _ (by omega) (by omega))
  clear ht hp hb
  by_cases h0 : offHiP t b.x1 b.x2 < 1
  · have HZ2 := Lib.hid (show inPixelP t q b = 0 by rw [HZ.out, if_pos h0])
    clear HZ
    go_enter Try.func66, Try.ntmps66
    go_wp2_with (first | (go_at_call 26; refine (checkTrack_e t _ HT.out).mono ?_; rintro e w' ⟨rfl, hb⟩; obtain ⟨pp, rfl⟩ := later_of_below hb; clear hb))
    go_region_held3 (fun w' => w'.cell? ⟨w.heap.size + 1 + 1 + 1, 0, none⟩ = some (.int .i64 t.sx) ∧ w'.cell? ⟨w.heap.size + 1 + 1 + 1, 1, none⟩ = some (.int .i64 t.sy) ∧ w'.cell? ⟨w.heap.size + 1 + 1 + 1, 2, none⟩ = some (.int .i64 t.sz) ∧ w'.cell? ⟨w.heap.size + 1 + 1 + 1, 3, none⟩ = some (.int .i64 t.step) ∧ w'.cell? ⟨w.heap.size + 1 + 1 + 1, 4, none⟩ = some (.int .i64 t.lines) ∧ w'.cell? ⟨w.heap.size + 1 + 1 + 1, 5, none⟩ = some (.int .i64 t.near) ∧ w'.cell? ⟨w.heap.size + 1 + 1 + 1, 6, none⟩ = some (.int .i64 t.bin) ∧ w'.cell? ⟨w.heap.size + 1 + 1 + 1, 7, none⟩ = some (.int .i64 t.bins) ∧ w'.cell? ⟨w.heap.size + 1 + 1 + 1, 8, none⟩ = some (.bool t.east) ∧ w'.cell? ⟨w.heap.size + 1, 0, none⟩ = some (.int .i64 q.line) ∧ w'.cell? ⟨w.heap.size + 1, 1, none⟩ = some (.int .i64 q.bin) ∧ w'.cell? ⟨w.heap.size + 1, 2, none⟩ = some (.int .i64 q.lo) ∧ w'.cell? ⟨w.heap.size + 1, 3, none⟩ = some (.int .i64 q.hi) ∧ w'.cell? ⟨w.heap.size + 1 + 1, 0, none⟩ = some (.int .i64 b.x1) ∧ w'.cell? ⟨w.heap.size + 1 + 1, 1, none⟩ = some (.int .i64 b.x2) ∧ w'.cell? ⟨w.heap.size + 1 + 1, 2, none⟩ = some (.int .i64 b.y1) ∧ w'.cell? ⟨w.heap.size + 1 + 1, 3, none⟩ = some (.int .i64 b.y2)) (first | ((first | (simp [go_sem]; done) | simp [go_sem, ↓IntWalk.iteOmega]); done)) (first | (go_at_call 79; refine (checkPixel_e t q _ HP.out (by omega) (by omega) (by omega) (by omega)).mono ?_; rintro e w' ⟨rfl, hb⟩; obtain ⟨pp, rfl⟩ := later_of_below hb; clear hb) | (go_at_call 132; refine (check_any b _ HB.out).mono ?_; rintro e w' ⟨rfl, hb⟩; obtain ⟨pp, rfl⟩ := later_of_below hb; clear hb) | (go_at_call 109; refine (first_e 0 0 _ _ (e0 := 0) rfl (by (first | (simp [go_sem]; done) | simp [go_sem, ↓IntWalk.iteOmega])) (by (first | (simp [go_sem]; done) | simp [go_sem, ↓IntWalk.iteOmega]))).mono ?_; rintro e w' ⟨rfl, rfl⟩))
    go_wp2_with (first | (go_at_call 134; refine (offs_any t _ _ _ (by omega) (by omega) (by omega) (by omega) (by omega) (by omega)).mono ?_; rintro e w' ⟨rfl, hb⟩; obtain ⟨p5, rfl⟩ := later_of_below hb; clear hb))
    go_ret2
    exact ⟨by (rw [HZ2.out]) <;> first | rfl | (simp; done), (by (repeat' (first | with_reducible exact Below.refl _ _ | (with_reducible refine below_later_of ?_ ?_ _) | (with_reducible refine Below.alloc ?_ ?_ _) | (with_reducible refine Below.setCell ?_ ?_ _) | (with_reducible refine Below.drew ?_) | (simp; done) | (simp; omega) | omega)))⟩
  · have HZ2 := Lib.hid (HZ.out.trans (if_neg h0))
    clear HZ
    go_enter Try.func66, Try.ntmps66
    go_wp2_with (first | (go_at_call 26; refine (checkTrack_e t _ HT.out).mono ?_; rintro e w' ⟨rfl, hb⟩; obtain ⟨pp, rfl⟩ := later_of_below hb; clear hb))
    go_region_held3 (fun w' => w'.cell? ⟨w.heap.size + 1 + 1 + 1, 0, none⟩ = some (.int .i64 t.sx) ∧ w'.cell? ⟨w.heap.size + 1 + 1 + 1, 1, none⟩ = some (.int .i64 t.sy) ∧ w'.cell? ⟨w.heap.size + 1 + 1 + 1, 2, none⟩ = some (.int .i64 t.sz) ∧ w'.cell? ⟨w.heap.size + 1 + 1 + 1, 3, none⟩ = some (.int .i64 t.step) ∧ w'.cell? ⟨w.heap.size + 1 + 1 + 1, 4, none⟩ = some (.int .i64 t.lines) ∧ w'.cell? ⟨w.heap.size + 1 + 1 + 1, 5, none⟩ = some (.int .i64 t.near) ∧ w'.cell? ⟨w.heap.size + 1 + 1 + 1, 6, none⟩ = some (.int .i64 t.bin) ∧ w'.cell? ⟨w.heap.size + 1 + 1 + 1, 7, none⟩ = some (.int .i64 t.bins) ∧ w'.cell? ⟨w.heap.size + 1 + 1 + 1, 8, none⟩ = some (.bool t.east) ∧ w'.cell? ⟨w.heap.size + 1, 0, none⟩ = some (.int .i64 q.line) ∧ w'.cell? ⟨w.heap.size + 1, 1, none⟩ = some (.int .i64 q.bin) ∧ w'.cell? ⟨w.heap.size + 1, 2, none⟩ = some (.int .i64 q.lo) ∧ w'.cell? ⟨w.heap.size + 1, 3, none⟩ = some (.int .i64 q.hi) ∧ w'.cell? ⟨w.heap.size + 1 + 1, 0, none⟩ = some (.int .i64 b.x1) ∧ w'.cell? ⟨w.heap.size + 1 + 1, 1, none⟩ = some (.int .i64 b.x2) ∧ w'.cell? ⟨w.heap.size + 1 + 1, 2, none⟩ = some (.int .i64 b.y1) ∧ w'.cell? ⟨w.heap.size + 1 + 1, 3, none⟩ = some (.int .i64 b.y2)) (first | ((first | (simp [go_sem]; done) | simp [go_sem, ↓IntWalk.iteOmega]); done)) (first | (go_at_call 79; refine (checkPixel_e t q _ HP.out (by omega) (by omega) (by omega) (by omega)).mono ?_; rintro e w' ⟨rfl, hb⟩; obtain ⟨pp, rfl⟩ := later_of_below hb; clear hb) | (go_at_call 132; refine (check_any b _ HB.out).mono ?_; rintro e w' ⟨rfl, hb⟩; obtain ⟨pp, rfl⟩ := later_of_below hb; clear hb) | (go_at_call 109; refine (first_e 0 0 _ _ (e0 := 0) rfl (by (first | (simp [go_sem]; done) | simp [go_sem, ↓IntWalk.iteOmega])) (by (first | (simp [go_sem]; done) | simp [go_sem, ↓IntWalk.iteOmega]))).mono ?_; rintro e w' ⟨rfl, rfl⟩))
    rename_i hheld
    clear hheld
    refine then_world (G := fun K => Exit.then _ K) (fun W => TrackAt W (w.heap.size + 1 + 1 + 1) t ∧ IntsAt4 W (w.heap.size + 1) q.line q.bin q.lo q.hi ∧ IntsAt4 W (w.heap.size + 1 + 1) b.x1 b.x2 b.y1 b.y2 ∧ Below w.heap.size w W ∧ w.heap.size + 1 + 1 + 1 < W.heap.size)
      ⟨⟨(by (first | (simp [go_sem]; done) | simp [go_sem, ↓IntWalk.iteOmega])), (by (first | (simp [go_sem]; done) | simp [go_sem, ↓IntWalk.iteOmega])), (by (first | (simp [go_sem]; done) | simp [go_sem, ↓IntWalk.iteOmega])), (by (first | (simp [go_sem]; done) | simp [go_sem, ↓IntWalk.iteOmega])), (by (first | (simp [go_sem]; done) | simp [go_sem, ↓IntWalk.iteOmega])), (by (first | (simp [go_sem]; done) | simp [go_sem, ↓IntWalk.iteOmega])), (by (first | (simp [go_sem]; done) | simp [go_sem, ↓IntWalk.iteOmega])), (by (first | (simp [go_sem]; done) | simp [go_sem, ↓IntWalk.iteOmega])), (by (first | (simp [go_sem]; done) | simp [go_sem, ↓IntWalk.iteOmega]))⟩, ⟨(by (first | (simp [go_sem]; done) | simp [go_sem, ↓IntWalk.iteOmega])), (by (first | (simp [go_sem]; done) | simp [go_sem, ↓IntWalk.iteOmega])), (by (first | (simp [go_sem]; done) | simp [go_sem, ↓IntWalk.iteOmega])), (by (first | (simp [go_sem]; done) | simp [go_sem, ↓IntWalk.iteOmega]))⟩, ⟨(by (first | (simp [go_sem]; done) | simp [go_sem, ↓IntWalk.iteOmega])), (by (first | (simp [go_sem]; done) | simp [go_sem, ↓IntWalk.iteOmega])), (by (first | (simp [go_sem]; done) | simp [go_sem, ↓IntWalk.iteOmega])), (by (first | (simp [go_sem]; done) | simp [go_sem, ↓IntWalk.iteOmega]))⟩, (by (repeat' (first | with_reducible exact Below.refl _ _ | (with_reducible refine below_later_of ?_ ?_ _) | (with_reducible refine Below.alloc ?_ ?_ _) | (with_reducible refine Below.setCell ?_ ?_ _) | (with_reducible refine Below.drew ?_) | (simp; done) | (simp; omega) | omega))), by simp; omega⟩ ?_
    rintro W5 ⟨kk, jj, ii, hb5, hs5⟩
    have KK := Lib.hid kk
    have JJ := Lib.hid jj
    have II := Lib.hid ii
    obtain ⟨k0, k1, k2, k3, k4, k5, k6, k7, k8⟩ := kk
    obtain ⟨j0, j1, j2, j3⟩ := jj
    obtain ⟨i0, i1, i2, i3⟩ := ii
    have HB5 := Lib.hid hb5
    clear hb5
    go_wp2_with (first | (go_at_call 134; refine (offs_any t _ _ _ (by omega) (by omega) (by omega) (by omega) (by omega) (by omega)).mono ?_; rintro e w' ⟨rfl, hb⟩; obtain ⟨p5, rfl⟩ := later_of_below hb; clear hb))
    obtain ⟨B11, hB11⟩ : ∃ B11, B11 = W5.heap.size + p5.os.size := ⟨_, rfl⟩
    refine wp_world3 (fun W => TrackAt W (w.heap.size + 1 + 1 + 1) t ∧ IntsAt4 W (w.heap.size + 1) q.line q.bin q.lo q.hi ∧ IntsAt4 W (w.heap.size + 1 + 1) b.x1 b.x2 b.y1 b.y2 ∧ IntsAt2 W B11 (offLoP t b.x1 b.x2) (offHiP t b.x1 b.x2) ∧ Below w.heap.size w W ∧ w.heap.size + 1 + 1 + 1 < W.heap.size ∧ B11 < W.heap.size)
      ⟨KK.out.below hs5 (by (repeat' (first | with_reducible exact Below.refl _ _ | (with_reducible refine below_later_of ?_ ?_ _) | (with_reducible refine Below.alloc ?_ ?_ _) | (with_reducible refine Below.setCell ?_ ?_ _) | (with_reducible refine Below.drew ?_) | (simp; done) | (simp; omega) | omega))), JJ.out.below (C := W5.heap.size) (by omega) (by (repeat' (first | with_reducible exact Below.refl _ _ | (with_reducible refine below_later_of ?_ ?_ _) | (with_reducible refine Below.alloc ?_ ?_ _) | (with_reducible refine Below.setCell ?_ ?_ _) | (with_reducible refine Below.drew ?_) | (simp; done) | (simp; omega) | omega))), II.out.below (C := W5.heap.size) (by omega) (by (repeat' (first | with_reducible exact Below.refl _ _ | (with_reducible refine below_later_of ?_ ?_ _) | (with_reducible refine Below.alloc ?_ ?_ _) | (with_reducible refine Below.setCell ?_ ?_ _) | (with_reducible refine Below.drew ?_) | (simp; done) | (simp; omega) | omega))), ?_, HB5.out.trans (below_mono_of (show w.heap.size ≤ W5.heap.size by omega) (by (repeat' (first | with_reducible exact Below.refl _ _ | (with_reducible refine below_later_of ?_ ?_ _) | (with_reducible refine Below.alloc ?_ ?_ _) | (with_reducible refine Below.setCell ?_ ?_ _) | (with_reducible refine Below.drew ?_) | (simp; done) | (simp; omega) | omega)))), by simp; omega, by simp; omega⟩ ?_
    · subst hB11
      exact ⟨(by (first | (simp [go_sem]; done) | simp [go_sem, ↓IntWalk.iteOmega])), (by (first | (simp [go_sem]; done) | simp [go_sem, ↓IntWalk.iteOmega]))⟩
    clear k0 k1 k2 k3 k4 k5 k6 k7 k8 j0 j1 j2 j3 i0 i1 i2 i3 HB5 KK JJ II
    rintro W8 ⟨kk, jj, ii, ff, hb8, hs8, hs11⟩
    have KK := Lib.hid kk
    have JJ := Lib.hid jj
    have II := Lib.hid ii
    have FF := Lib.hid ff
    obtain ⟨k0, k1, k2, k3, k4, k5, k6, k7, k8⟩ := kk
    obtain ⟨j0, j1, j2, j3⟩ := jj
    obtain ⟨i0, i1, i2, i3⟩ := ii
    obtain ⟨f0, f1⟩ := ff
    rw [← hB11]
    have HB8 := Lib.hid hb8
    clear hb8 hB11
    refine wp_region_calm (by kernel_rfl) (by kernel_rfl) ?_
    repeat (go_big_quiet_step (first | (go_at_call 80; exact calm_of (depth_any t _ _ (by omega) (by omega) (by omega) (by omega)))))
    refine wpQuiet_nil ?_
    rintro _ ⟨p2, rfl⟩
    go_wp2
    go_cut [15] from 57 to 75 (fun x wx => ∃ B15, x = .pointer (some ⟨B15, 0, none⟩) ∧ TrackAt wx (w.heap.size + 1 + 1 + 1) t ∧ IntsAt4 wx (w.heap.size + 1) q.line q.bin q.lo q.hi ∧ IntsAt4 wx (w.heap.size + 1 + 1) b.x1 b.x2 b.y1 b.y2 ∧ IntsAt2 wx B11 (offLoP t b.x1 b.x2) (offHiP t b.x1 b.x2) ∧ IntsAt2 wx B15 (s1P t q b) (s2P t q b) ∧ Below w.heap.size w wx ∧ w.heap.size + 1 + 1 + 1 < wx.heap.size ∧ B11 < wx.heap.size ∧ B15 < wx.heap.size)
    case first =>
      go_region_held3 (fun w' => w'.cell? ⟨B11, 0, none⟩ = some (.int .i64 (offLoP t b.x1 b.x2)) ∧ w'.cell? ⟨B11, 1, none⟩ = some (.int .i64 (offHiP t b.x1 b.x2))) (exact FF.out.below hs11 (by (repeat' (first | with_reducible exact Below.refl _ _ | (with_reducible refine below_later_of ?_ ?_ _) | (with_reducible refine Below.alloc ?_ ?_ _) | (with_reducible refine Below.setCell ?_ ?_ _) | (with_reducible refine Below.drew ?_) | (simp; done) | (simp; omega) | omega)))) (first | (go_at_call 82; refine (HR.out _ _ _ (by assumption) (by assumption) (by assumption) (by assumption)).mono ?_; rintro e w' ⟨rfl, rfl⟩))
      all_goals
        go_wp2_with fail
        go_meet
        exact ⟨_, rfl, KK.out.below hs8 (by (repeat' (first | with_reducible exact Below.refl _ _ | (with_reducible refine below_later_of ?_ ?_ _) | (with_reducible refine Below.alloc ?_ ?_ _) | (with_reducible refine Below.setCell ?_ ?_ _) | (with_reducible refine Below.drew ?_) | (simp; done) | (simp; omega) | omega))), JJ.out.below (C := W8.heap.size) (by omega) (by (repeat' (first | with_reducible exact Below.refl _ _ | (with_reducible refine below_later_of ?_ ?_ _) | (with_reducible refine Below.alloc ?_ ?_ _) | (with_reducible refine Below.setCell ?_ ?_ _) | (with_reducible refine Below.drew ?_) | (simp; done) | (simp; omega) | omega))), II.out.below (C := W8.heap.size) (by omega) (by (repeat' (first | with_reducible exact Below.refl _ _ | (with_reducible refine below_later_of ?_ ?_ _) | (with_reducible refine Below.alloc ?_ ?_ _) | (with_reducible refine Below.setCell ?_ ?_ _) | (with_reducible refine Below.drew ?_) | (simp; done) | (simp; omega) | omega))), FF.out.below hs11 (by (repeat' (first | with_reducible exact Below.refl _ _ | (with_reducible refine below_later_of ?_ ?_ _) | (with_reducible refine Below.alloc ?_ ?_ _) | (with_reducible refine Below.setCell ?_ ?_ _) | (with_reducible refine Below.drew ?_) | (simp; done) | (simp; omega) | omega))), ⟨by (first | (simp [go_sem, s1P]; done) | simp [go_sem, s1P, ↓IntWalk.iteOmega]), by (first | (simp [go_sem, s2P]; done) | simp [go_sem, s2P, ↓IntWalk.iteOmega])⟩, HB8.out.trans (below_mono_of (show w.heap.size ≤ W8.heap.size by omega) (by (repeat' (first | with_reducible exact Below.refl _ _ | (with_reducible refine below_later_of ?_ ?_ _) | (with_reducible refine Below.alloc ?_ ?_ _) | (with_reducible refine Below.setCell ?_ ?_ _) | (with_reducible refine Below.drew ?_) | (simp; done) | (simp; omega) | omega)))), by (simp <;> omega), by (simp <;> omega), by (simp <;> omega)⟩
    case rest =>
      obtain ⟨B15, rfl, kk, jj, ii, ff, ss, hb9, hs9, hs11', hs15⟩ := hcut
      clear k0 k1 k2 k3 k4 k5 k6 k7 k8 j0 j1 j2 j3 i0 i1 i2 i3 f0 f1 KK JJ II FF
      obtain ⟨k0, k1, k2, k3, k4, k5, k6, k7, k8⟩ := kk
      obtain ⟨j0, j1, j2, j3⟩ := jj
      obtain ⟨i0, i1, i2, i3⟩ := ii
      obtain ⟨f0, f1⟩ := ff
      obtain ⟨s0, s1⟩ := ss
      have HB9 := Lib.hid hb9
      clear hb9
      generalize s1P t q b = sl at *
      generalize s2P t q b = sh at *
      have hl1 : l1P t b = min (lineP t b.y1) (lineP t b.y2) := rfl
      have hl2 : l2P t b = max (lineP t b.y1) (lineP t b.y2) := rfl
      have HL1 := Lib.hid hl1
      have HL2 := Lib.hid hl2
      clear hl1 hl2
      go_wp2
      refine wp_region_calm (by kernel_rfl) (by kernel_rfl) ?_
      repeat (go_big_quiet_step (first | (go_at_call 90; exact calm_of (line_any t _ _ OT.out (by omega) (by omega)))))
      refine wpQuiet_nil ?_
      rintro _ ⟨p4, rfl⟩
      generalize lineP t b.y1 = one at *
      generalize lineP t b.y2 = two at *
      have hz := HZ2.out
      rw [HL1.out, HL2.out] at hz
      have HZ3 := Lib.hid hz
      clear hz HZ2 HL1 HL2
      cases c1 : inR (min one two) (max one two) q.line
      · have H1 := Lib.hid c1
        have HZ := Lib.hid (show inPixelP t q b = 0 by rw [HZ3.out, c1]; rfl)
        clear c1 HZ3
        (go_wp2_with (first | (go_at_call 135; refine (slants_any t _ _ (by omega) (by omega) (by omega) (by omega) (by omega) (by omega)).mono ?_; rintro e w' ⟨rfl, hb⟩; obtain ⟨pp, rfl⟩ := later_of_below hb; clear hb) | (go_at_call 91; (with_reducible refine (within_c _ _ _ _ H1.out).mono ?_); rintro e w' ⟨rfl, rfl⟩)); go_ret2; exact ⟨by (rw [HZ.out]) <;> first | rfl | (simp; done), HB9.out.trans (below_mono_of (show w.heap.size ≤ wc.heap.size by omega) (by (repeat' (first | with_reducible exact Below.refl _ _ | (with_reducible refine below_later_of ?_ ?_ _) | (with_reducible refine Below.alloc ?_ ?_ _) | (with_reducible refine Below.setCell ?_ ?_ _) | (with_reducible refine Below.drew ?_) | (simp; done) | (simp; omega) | omega))))⟩)
      have H1 := Lib.hid c1
      cases c2 : decide (sh < t.near + t.bin * q.bin)
      rotate_left
      · have HZ := Lib.hid (show inPixelP t q b = 0 by rw [HZ3.out, c1, c2]; rfl)
        clear c1 HZ3
        (go_wp2_with (first | (go_at_call 135; refine (slants_any t _ _ (by omega) (by omega) (by omega) (by omega) (by omega) (by omega)).mono ?_; rintro e w' ⟨rfl, hb⟩; obtain ⟨pp, rfl⟩ := later_of_below hb; clear hb) | (go_at_call 91; (with_reducible refine (within_c _ _ _ _ H1.out).mono ?_); rintro e w' ⟨rfl, rfl⟩)); go_ret2; exact ⟨by (rw [HZ.out]) <;> first | rfl | (simp; done), HB9.out.trans (below_mono_of (show w.heap.size ≤ wc.heap.size by omega) (by (repeat' (first | with_reducible exact Below.refl _ _ | (with_reducible refine below_later_of ?_ ?_ _) | (with_reducible refine Below.alloc ?_ ?_ _) | (with_reducible refine Below.setCell ?_ ?_ _) | (with_reducible refine Below.drew ?_) | (simp; done) | (simp; omega) | omega))))⟩)
      cases c3 : decide (t.near + t.bin * q.bin + t.bin - 1 < sl)
      rotate_left
      · have HZ := Lib.hid (show inPixelP t q b = 0 by rw [HZ3.out, c1, c2, c3]; rfl)
        clear c1 HZ3
        (go_wp2_with (first | (go_at_call 135; refine (slants_any t _ _ (by omega) (by omega) (by omega) (by omega) (by omega) (by omega)).mono ?_; rintro e w' ⟨rfl, hb⟩; obtain ⟨pp, rfl⟩ := later_of_below hb; clear hb) | (go_at_call 91; (with_reducible refine (within_c _ _ _ _ H1.out).mono ?_); rintro e w' ⟨rfl, rfl⟩)); go_ret2; exact ⟨by (rw [HZ.out]) <;> first | rfl | (simp; done), HB9.out.trans (below_mono_of (show w.heap.size ≤ wc.heap.size by omega) (by (repeat' (first | with_reducible exact Below.refl _ _ | (with_reducible refine below_later_of ?_ ?_ _) | (with_reducible refine Below.alloc ?_ ?_ _) | (with_reducible refine Below.setCell ?_ ?_ _) | (with_reducible refine Below.drew ?_) | (simp; done) | (simp; omega) | omega))))⟩)
      cases c4 : decide (1 ≤ offLoP t b.x1 b.x2)
      · have HZ := Lib.hid (show inPixelP t q b = 1 by rw [HZ3.out, c1, c2, c3, c4]; rfl)
        clear c1 HZ3
        (go_wp2_with (first | (go_at_call 135; refine (slants_any t _ _ (by omega) (by omega) (by omega) (by omega) (by omega) (by omega)).mono ?_; rintro e w' ⟨rfl, hb⟩; obtain ⟨pp, rfl⟩ := later_of_below hb; clear hb) | (go_at_call 91; (with_reducible refine (within_c _ _ _ _ H1.out).mono ?_); rintro e w' ⟨rfl, rfl⟩)); go_ret2; exact ⟨by (rw [HZ.out]) <;> first | rfl | (simp; done), HB9.out.trans (below_mono_of (show w.heap.size ≤ wc.heap.size by omega) (by (repeat' (first | with_reducible exact Below.refl _ _ | (with_reducible refine below_later_of ?_ ?_ _) | (with_reducible refine Below.alloc ?_ ?_ _) | (with_reducible refine Below.setCell ?_ ?_ _) | (with_reducible refine Below.drew ?_) | (simp; done) | (simp; omega) | omega))))⟩)
      cases c5 : decide (min one two = max one two)
      · have HZ := Lib.hid (show inPixelP t q b = 1 by rw [HZ3.out, c1, c2, c3, c4, c5]; rfl)
        have c5' : (min one two == max one two) = false := by simpa using c5
        clear c1 HZ3 c5
        (go_wp2_with (first | (go_at_call 135; refine (slants_any t _ _ (by omega) (by omega) (by omega) (by omega) (by omega) (by omega)).mono ?_; rintro e w' ⟨rfl, hb⟩; obtain ⟨pp, rfl⟩ := later_of_below hb; clear hb) | (go_at_call 91; (with_reducible refine (within_c _ _ _ _ H1.out).mono ?_); rintro e w' ⟨rfl, rfl⟩)); go_ret2; exact ⟨by (rw [HZ.out]) <;> first | rfl | (simp; done), HB9.out.trans (below_mono_of (show w.heap.size ≤ wc.heap.size by omega) (by (repeat' (first | with_reducible exact Below.refl _ _ | (with_reducible refine below_later_of ?_ ?_ _) | (with_reducible refine Below.alloc ?_ ?_ _) | (with_reducible refine Below.setCell ?_ ?_ _) | (with_reducible refine Below.drew ?_) | (simp; done) | (simp; omega) | omega))))⟩)
      have c5' : (min one two == max one two) = true := by simpa using c5
      cases c6 : decide (t.near + t.bin * q.bin ≤ sl)
      · have HZ := Lib.hid (show inPixelP t q b = 1 by rw [HZ3.out, c1, c2, c3, c4, c5, c6]; rfl)
        clear c1 HZ3 c5
        (go_wp2_with (first | (go_at_call 135; refine (slants_any t _ _ (by omega) (by omega) (by omega) (by omega) (by omega) (by omega)).mono ?_; rintro e w' ⟨rfl, hb⟩; obtain ⟨pp, rfl⟩ := later_of_below hb; clear hb) | (go_at_call 91; (with_reducible refine (within_c _ _ _ _ H1.out).mono ?_); rintro e w' ⟨rfl, rfl⟩)); go_ret2; exact ⟨by (rw [HZ.out]) <;> first | rfl | (simp; done), HB9.out.trans (below_mono_of (show w.heap.size ≤ wc.heap.size by omega) (by (repeat' (first | with_reducible exact Below.refl _ _ | (with_reducible refine below_later_of ?_ ?_ _) | (with_reducible refine Below.alloc ?_ ?_ _) | (with_reducible refine Below.setCell ?_ ?_ _) | (with_reducible refine Below.drew ?_) | (simp; done) | (simp; omega) | omega))))⟩)
      cases c7 : decide (sh ≤ t.near + t.bin * q.bin + t.bin - 1)
      · have HZ := Lib.hid (show inPixelP t q b = 1 by rw [HZ3.out, c1, c2, c3, c4, c5, c6, c7]; rfl)
        clear c1 HZ3 c5
        (go_wp2_with (first | (go_at_call 135; refine (slants_any t _ _ (by omega) (by omega) (by omega) (by omega) (by omega) (by omega)).mono ?_; rintro e w' ⟨rfl, hb⟩; obtain ⟨pp, rfl⟩ := later_of_below hb; clear hb) | (go_at_call 91; (with_reducible refine (within_c _ _ _ _ H1.out).mono ?_); rintro e w' ⟨rfl, rfl⟩)); go_ret2; exact ⟨by (rw [HZ.out]) <;> first | rfl | (simp; done), HB9.out.trans (below_mono_of (show w.heap.size ≤ wc.heap.size by omega) (by (repeat' (first | with_reducible exact Below.refl _ _ | (with_reducible refine below_later_of ?_ ?_ _) | (with_reducible refine Below.alloc ?_ ?_ _) | (with_reducible refine Below.setCell ?_ ?_ _) | (with_reducible refine Below.drew ?_) | (simp; done) | (simp; omega) | omega))))⟩)
      · have HZ := Lib.hid (show inPixelP t q b = 2 by rw [HZ3.out, c1, c2, c3, c4, c5, c6, c7]; rfl)
        clear c1 HZ3 c5
        (go_wp2_with (first | (go_at_call 135; refine (slants_any t _ _ (by omega) (by omega) (by omega) (by omega) (by omega) (by omega)).mono ?_; rintro e w' ⟨rfl, hb⟩; obtain ⟨pp, rfl⟩ := later_of_below hb; clear hb) | (go_at_call 91; (with_reducible refine (within_c _ _ _ _ H1.out).mono ?_); rintro e w' ⟨rfl, rfl⟩)); go_ret2; exact ⟨by (rw [HZ.out]) <;> first | rfl | (simp; done), HB9.out.trans (below_mono_of (show w.heap.size ≤ wc.heap.size by omega) (by (repeat' (first | with_reducible exact Below.refl _ _ | (with_reducible refine below_later_of ?_ ?_ _) | (with_reducible refine Below.alloc ?_ ?_ _) | (with_reducible refine Below.setCell ?_ ?_ _) | (with_reducible refine Below.drew ?_) | (simp; done) | (simp; omega) | omega))))⟩)
end Go.Proofs.Ytokpdmlmlkkekaa

/- InPixel: the reference. -/
namespace Go.Proofs.Ytokpdmlmlkkekaa
set_option linter.unusedVariables false
open Go.RowKit
/-- The bins tell what the slants tell. -/
theorem bin_le {t : Trk} {s n : Int} (h : 1 ≤ t.bin) : binP t s ≤ n ↔ s ≤ t.near + t.bin * n + t.bin - 1 := by
  unfold binP
  rw [floorP_pos h]
  have : (s - t.near) / t.bin < n + 1 ↔ s - t.near < (n + 1) * t.bin := Int.ediv_lt_iff_lt_mul (by omega)
  rw [Int.add_mul, Int.one_mul, Int.mul_comm n] at this
  omega
theorem le_bin {t : Trk} {s n : Int} (h : 1 ≤ t.bin) : n ≤ binP t s ↔ t.near + t.bin * n ≤ s := by
  unfold binP
  rw [floorP_pos h]
  have : n ≤ (s - t.near) / t.bin ↔ n * t.bin ≤ s - t.near := Int.le_ediv_iff_mul_le (by omega)
  rw [Int.mul_comm n] at this
  omega
theorem offLo_min {t : Trk} {a b : Int} (h : a ≤ b) : min (offP t a) (offP t b) = offLoP t a b := by
  unfold offLoP offP; cases t.east <;> simp <;> omega
theorem offHi_max {t : Trk} {a b : Int} (h : a ≤ b) : max (offP t a) (offP t b) = offHiP t a b := by
  unfold offHiP offP; cases t.east <;> simp <;> omega
/-- The answer as the reference finds it. -/
theorem inPixel_alt {t : Trk} {q : Pix} {b : Bx} (ht : 1 ≤ t.bin) (hs : s1P t q b ≤ s2P t q b) : inPixelP t q b =
    if offHiP t b.x1 b.x2 < 1 then 0
    else if !inR (l1P t b) (l2P t b) q.line || !inR (binP t (s1P t q b)) (binP t (s2P t q b)) q.bin then 0
    else if decide (1 ≤ offLoP t b.x1 b.x2) && (decide (l1P t b = l2P t b) && decide (binP t (s1P t q b) = binP t (s2P t q b))) then 2 else 1 := by
  unfold inPixelP
  have e1 := @bin_le t (s1P t q b) q.bin ht
  have e2 := @le_bin t (s2P t q b) q.bin ht
  have e3 := @le_bin t (s1P t q b) q.bin ht
  have e4 := @bin_le t (s2P t q b) q.bin ht
  have e5 : binP t (s1P t q b) ≤ binP t (s2P t q b) := by
    have := (@le_bin t (s1P t q b) (binP t (s1P t q b)) ht).1 (Int.le_refl _)
    exact (@le_bin t (s2P t q b) (binP t (s1P t q b)) ht).2 (by omega)
  generalize binP t (s1P t q b) = u at *
  generalize binP t (s2P t q b) = v at *
  generalize s1P t q b = s at *
  generalize s2P t q b = r at *
  generalize t.near + t.bin * q.bin = a at *
  split
  · rfl
  · by_cases g1 : inR (l1P t b) (l2P t b) q.line = true
    · rw [g1]
      have h1 : (decide (r < a) || decide (a + t.bin - 1 < s)) = !inR u v q.bin := by
        unfold inR
        rw [Bool.eq_iff_iff]; simp; omega
      rw [h1]
      by_cases g2 : inR u v q.bin = true
      · rw [g2]
        simp only [Bool.not_true, Bool.false_or, Bool.false_eq_true, if_false]
        have g3 := inR_iff.1 g2
        have h2 : (decide (a ≤ s) && decide (r ≤ a + t.bin - 1)) = decide (u = v) := by
          rw [Bool.eq_iff_iff]; simp; omega
        rw [h2]
      · rw [Bool.not_eq_true] at g2
        rw [g2]
        simp
    · rw [Bool.not_eq_true] at g1
      rw [g1]
      simp

theorem rootP_mono {a b : Int} (h0 : 0 ≤ a) (h : a ≤ b) (hb : b < 4611686018427387904) : rootP a ≤ rootP b := by
  obtain ⟨r0, r1, r2⟩ := rootP_spec a h0 (by omega)
  obtain ⟨s0, s1, s2⟩ := rootP_spec b (by omega) hb
  have : rootP a < rootP b + 1 := lt_of_sq_lt (by omega) (by omega)
  omega
theorem sq_mono {a b : Int} (h0 : 0 ≤ a) (h : a ≤ b) : a * a ≤ b * b := Int.mul_le_mul h h h0 (by omega)
theorem slants_le {t : Trk} {q : Pix} {b : Bx} (ot : t.Ok) (op : q.Ok t) (ob : b.Ok) (h0 : 1 ≤ offHiP t b.x1 b.x2) : s1P t q b ≤ s2P t q b := by
  obtain ⟨o1, o2, o3, o4, o5⟩ := offs_bd ot ob
  obtain ⟨-, -, -, -, -, -, d1, d2, d3, d4⟩ := box_bd ot op
  have e1 := sq_mono (a := max 1 (offLoP t b.x1 b.x2)) (b := offHiP t b.x1 b.x2) (by omega) (by omega)
  have e2 := sq_mono (a := depthP t q.hi) (b := depthP t q.lo) (by unfold depthP; have := op.top; omega) (by unfold depthP; have := op.ord; omega)
  obtain ⟨q1, q2⟩ := sq_bd (offHiP t b.x1 b.x2) 200000000 (by omega) (by omega)
  obtain ⟨q3, q4⟩ := sq_bd (max 1 (offLoP t b.x1 b.x2)) 200000000 (by omega) (by omega)
  unfold s1P s2P
  exact rootP_mono (by omega) (by omega) (by omega)
end Go.Proofs.Ytokpdmlmlkkekaa

/- InPixel, plain: what its answers tell of the places of a box. -/
namespace Go.Proofs.Ytokpdmlmlkkekaa
set_option linter.unusedVariables false
theorem lineP_between {t : Trk} {y1 y y2 : Int} (o : t.Ok) (h1 : y1 ≤ y) (h2 : y ≤ y2) : min (lineP t y1) (lineP t y2) ≤ lineP t y ∧ lineP t y ≤ max (lineP t y1) (lineP t y2) := by
  unfold lineP floorP
  by_cases hs : t.step < 0
  · simp only [if_pos hs]
    have a := Int.ediv_le_ediv (c := -t.step) (by omega) (show -(y - t.sy) ≤ -(y1 - t.sy) by omega)
    have b := Int.ediv_le_ediv (c := -t.step) (by omega) (show -(y2 - t.sy) ≤ -(y - t.sy) by omega)
    omega
  · simp only [if_neg hs]
    have h0 := o.st0
    have a := Int.ediv_le_ediv (c := t.step) (by omega) (show y1 - t.sy ≤ y - t.sy by omega)
    have b := Int.ediv_le_ediv (c := t.step) (by omega) (show y - t.sy ≤ y2 - t.sy by omega)
    omega
theorem off_between {t : Trk} {x1 x x2 : Int} (h1 : x1 ≤ x) (h2 : x ≤ x2) : offLoP t x1 x2 ≤ offP t x ∧ offP t x ≤ offHiP t x1 x2 := by
  unfold offLoP offHiP offP; cases t.east <;> simp <;> omega
/-- The slant of a place of the box, with a height of the pixel, lies between the box's two. -/
theorem slant_between {t : Trk} {q : Pix} {b : Bx} {x z : Int} (ot : t.Ok) (op : q.Ok t) (ob : b.Ok) (h1 : b.x1 ≤ x) (h2 : x ≤ b.x2) (h3 : q.lo ≤ z) (h4 : z ≤ q.hi) (h0 : 1 ≤ offP t x) :
    s1P t q b ≤ rootP (squareP t x z) ∧ rootP (squareP t x z) ≤ s2P t q b := by
  obtain ⟨o1, o2, o3, o4, o5⟩ := offs_bd ot ob
  obtain ⟨-, -, -, -, -, -, d1, d2, d3, d4⟩ := box_bd ot op
  obtain ⟨f1, f2⟩ := @off_between t b.x1 x b.x2 h1 h2
  have := op.top
  have e1 := sq_mono (a := max 1 (offLoP t b.x1 b.x2)) (b := offP t x) (by omega) (by omega)
  have e2 := sq_mono (a := offP t x) (b := offHiP t b.x1 b.x2) (by omega) (by omega)
  have e3 := sq_mono (a := depthP t q.hi) (b := depthP t z) (by unfold depthP; omega) (by unfold depthP; omega)
  have e4 := sq_mono (a := depthP t z) (b := depthP t q.lo) (by unfold depthP; omega) (by unfold depthP; omega)
  obtain ⟨q1, q2⟩ := sq_bd (offHiP t b.x1 b.x2) 200000000 (by omega) (by omega)
  obtain ⟨q3, q4⟩ := sq_bd (max 1 (offLoP t b.x1 b.x2)) 200000000 (by omega) (by omega)
  unfold s1P s2P squareP
  exact ⟨rootP_mono (by omega) (by omega) (by omega), rootP_mono (by omega) (by omega) (by omega)⟩
theorem placeB_of {t : Trk} {q : Pix} {b : Bx} {x y z : Int} (op : q.Ok t) (ob : b.Ok) (h1 : b.x1 ≤ x) (h2 : x ≤ b.x2) (h3 : b.y1 ≤ y) (h4 : y ≤ b.y2) (h5 : q.lo ≤ z) (h6 : z ≤ q.hi) : placeB x y z = true := by
  have := ob.x1a; have := ob.x2b; have := ob.y1a; have := ob.y2b; have := op.lo1; have := op.hi2
  rw [placeB_iff]; omega
theorem seen_zero {t : Trk} {x y z : Int} (ht : checkTrackP t = 0) (hp : placeB x y z = true) : seenP t x y z = 0 := by
  unfold seenP first2 checkPlaceP; rw [ht, hp]; rfl
/-- Yes: each place of the box has this pixel. -/
theorem yes_own {t : Trk} {q : Pix} {b : Bx} {x y z : Int} (ht : checkTrackP t = 0) (op : q.Ok t) (ob : b.Ok) (h1 : b.x1 ≤ x) (h2 : x ≤ b.x2) (h3 : b.y1 ≤ y) (h4 : y ≤ b.y2) (h5 : q.lo ≤ z) (h6 : z ≤ q.hi)
    (hn : inPixelP t q b = 2) : pixelOfP t x y z = (q.line, q.bin, 0) := by
  have ot := checkTrackP_ok ht
  obtain ⟨f1, f2⟩ := @off_between t b.x1 x b.x2 h1 h2
  obtain ⟨l1, l2⟩ := lineP_between ot h3 h4
  have hL1 : l1P t b = min (lineP t b.y1) (lineP t b.y2) := rfl
  have hL2 : l2P t b = max (lineP t b.y1) (lineP t b.y2) := rfl
  unfold inPixelP at hn
  split at hn
  · omega
  · split at hn
    · omega
    · rename_i hA
      split at hn
      · rename_i hB
        simp only [Bool.or_eq_true, Bool.not_eq_true', decide_eq_true_eq, not_or] at hA
        simp only [Bool.and_eq_true, decide_eq_true_eq] at hB
        obtain ⟨a1, a2, a3⟩ := hA
        obtain ⟨b1, b2, b3, b4⟩ := hB
        have a1' := inR_iff.1 (by simpa using a1)
        obtain ⟨s1, s2⟩ := slant_between ot op ob h1 h2 h5 h6 (show 1 ≤ offP t x by omega)
        have e1 : q.bin ≤ binP t (rootP (squareP t x z)) := (le_bin ot.bi1).2 (by omega)
        have e2 : binP t (rootP (squareP t x z)) ≤ q.bin := (bin_le ot.bi1).2 (by omega)
        have e3 : lineP t y = q.line := by omega
        have e4 : binP t (rootP (squareP t x z)) = q.bin := by omega
        unfold pixelOfP
        rw [if_pos (seen_zero ht (placeB_of op ob h1 h2 h3 h4 h5 h6)), if_neg (by omega), if_neg (by have := op.top; unfold depthP; omega), e3, e4,
          if_pos (by rw [Bool.and_eq_true, inR_iff, inR_iff]; exact ⟨⟨op.l1, op.l2⟩, op.b1, op.b2⟩)]
      · omega
/-- A place of the box with this pixel: not No. -/
theorem own_not_no {t : Trk} {q : Pix} {b : Bx} {x y z : Int} (ht : checkTrackP t = 0) (op : q.Ok t) (ob : b.Ok) (h1 : b.x1 ≤ x) (h2 : x ≤ b.x2) (h3 : b.y1 ≤ y) (h4 : y ≤ b.y2) (h5 : q.lo ≤ z) (h6 : z ≤ q.hi)
    (hp : pixelOfP t x y z = (q.line, q.bin, 0)) : inPixelP t q b ≠ 0 := by
  have ot := checkTrackP_ok ht
  obtain ⟨f1, f2⟩ := @off_between t b.x1 x b.x2 h1 h2
  obtain ⟨l1, l2⟩ := lineP_between ot h3 h4
  have hL1 : l1P t b = min (lineP t b.y1) (lineP t b.y2) := rfl
  have hL2 : l2P t b = max (lineP t b.y1) (lineP t b.y2) := rfl
  unfold pixelOfP at hp
  rw [if_pos (seen_zero ht (placeB_of op ob h1 h2 h3 h4 h5 h6))] at hp
  split at hp
  · simp only [Prod.mk.injEq] at hp; omega
  · split at hp
    · simp only [Prod.mk.injEq] at hp; omega
    · split at hp
      · simp only [Prod.mk.injEq, and_true] at hp
        obtain ⟨e1, e2⟩ := hp
        obtain ⟨s1, s2⟩ := slant_between ot op ob h1 h2 h5 h6 (show 1 ≤ offP t x by omega)
        have g1 := (@le_bin t (rootP (squareP t x z)) q.bin ot.bi1).1 (by omega)
        have g2 := (@bin_le t (rootP (squareP t x z)) q.bin ot.bi1).1 (by omega)
        unfold inPixelP
        rw [if_neg (by omega), if_neg]
        · split <;> decide
        · simp only [Bool.or_eq_true, Bool.not_eq_true', decide_eq_true_eq, not_or]
          refine ⟨?_, by omega, by omega⟩
          rw [Bool.not_eq_false, inR_iff]; omega
      · simp only [Prod.mk.injEq] at hp; omega
theorem insideP_bd2 {lo hi n : Int} (h : lo ≤ hi) : lo ≤ insideP lo hi n ∧ insideP lo hi n ≤ hi := by
  have hm1 := Int.emod_nonneg n (show hi - lo + 1 ≠ 0 by omega)
  have hm2 := Int.emod_lt_of_pos n (show 0 < hi - lo + 1 by omega)
  unfold insideP; omega
theorem inPixelP_range (t : Trk) (q : Pix) (b : Bx) : inPixelP t q b = 0 ∨ inPixelP t q b = 1 ∨ inPixelP t q b = 2 := by
  unfold inPixelP
  split
  · exact Or.inl rfl
  · split
    · exact Or.inl rfl
    · split
      · exact Or.inr (Or.inr rfl)
      · exact Or.inr (Or.inl rfl)
end Go.Proofs.Ytokpdmlmlkkekaa

/- There and back, plain. -/
namespace Go.Proofs.Ytokpdmlmlkkekaa
set_option linter.unusedVariables false
theorem pixelOfP_err {t : Trk} {x y z a b e : Int} (h : pixelOfP t x y z = (a, b, e)) (he : e ≠ 0) : a = 0 ∧ b = 0 := by
  unfold pixelOfP at h
  split at h
  · split at h
    · simp only [Prod.mk.injEq] at h; omega
    · split at h
      · simp only [Prod.mk.injEq] at h; omega
      · split at h
        · simp only [Prod.mk.injEq] at h; omega
        · simp only [Prod.mk.injEq] at h; omega
  · simp only [Prod.mk.injEq] at h; omega
/-- What a place with a pixel is. -/
structure Seen (t : Trk) (x y z a b : Int) : Prop where
  trk : checkTrackP t = 0
  plc : placeB x y z = true
  off : 1 ≤ offP t x
  deep : 1 ≤ depthP t z
  line : lineP t y = a
  bin : binP t (rootP (squareP t x z)) = b
  a1 : 0 ≤ a
  a2 : a ≤ t.lines - 1
  b1 : 0 ≤ b
  b2 : b ≤ t.bins - 1
theorem pixelOfP_ok {t : Trk} {x y z a b : Int} (h : pixelOfP t x y z = (a, b, 0)) : Seen t x y z a b := by
  unfold pixelOfP at h
  split at h
  · rename_i hs
    have hs' := hs
    unfold seenP first2 at hs'
    have ht : checkTrackP t = 0 := by
      split at hs'
      · assumption
      · contradiction
    split at h
    · simp only [Prod.mk.injEq] at h; omega
    · split at h
      · simp only [Prod.mk.injEq] at h; omega
      · split at h
        · rename_i h1 h2 h3
          simp only [Prod.mk.injEq, and_true] at h
          rw [Bool.and_eq_true, inR_iff, inR_iff] at h3
          obtain ⟨e1, e2⟩ := h
          subst e1 e2
          exact ⟨ht, (seenP_ok hs).2, by omega, by omega, rfl, rfl, h3.1.1, h3.1.2, h3.2.1, h3.2.2⟩
        · simp only [Prod.mk.injEq] at h; omega
  · simp only [Prod.mk.injEq] at h
    rename_i hs
    exact absurd h.2.2 hs
theorem rootUpP_le {m o : Int} (h0 : 0 ≤ o) (h1 : 0 ≤ m) (h : m ≤ o * o) (hm : m < 4611686018427387904) : rootUpP m ≤ o := by
  obtain ⟨r0, r1, r2⟩ := rootP_spec m h1 hm
  unfold rootUpP
  split
  · have : rootP m < o := lt_of_sq_lt h0 (by omega)
    omega
  · exact le_of_sq_le h0 (by omega)
theorem le_rootP {m o : Int} (h0 : 0 ≤ o) (h : o * o ≤ m) (hm : m < 4611686018427387904) : o ≤ rootP m := by
  obtain ⟨r0, r1, r2⟩ := rootP_spec m (by have := Int.mul_nonneg h0 h0; omega) hm
  have : o < rootP m + 1 := lt_of_sq_lt (by omega) (by omega)
  omega
theorem row_of {t : Trk} {y a : Int} (o : t.Ok) (h : lineP t y = a) : (rowsP t a).1 ≤ y ∧ y ≤ (rowsP t a).2 := by
  unfold lineP floorP at h
  unfold rowsP
  have h0 := o.st0
  by_cases hs : t.step < 0
  · rw [if_pos hs] at h ⊢
    have h1 := (Int.le_ediv_iff_mul_le (a := a) (b := -(y - t.sy)) (c := -t.step) (by omega)).1 (by omega)
    have h2 := (Int.ediv_lt_iff_lt_mul (a := -(y - t.sy)) (b := a + 1) (c := -t.step) (by omega)).1 (by omega)
    rw [Int.mul_neg] at h1 h2
    simp only
    omega
  · rw [if_neg hs] at h ⊢
    have h1 := (Int.le_ediv_iff_mul_le (a := a) (b := y - t.sy) (c := t.step) (by omega)).1 (by omega)
    have h2 := (Int.ediv_lt_iff_lt_mul (a := y - t.sy) (b := a + 1) (c := t.step) (by omega)).1 (by omega)
    simp only
    omega
/-- The box of a pixel has each place with this pixel. -/
theorem back {t : Trk} {x y z : Int} {q : Pix} (s : Seen t x y z q.line q.bin) (hp : checkPixelP t q = 0) (h1 : q.lo ≤ z) (h2 : z ≤ q.hi) :
    ∃ a b c d, boxOfP t q = ⟨a, b, c, d, 0⟩ ∧ a ≤ x ∧ x ≤ b ∧ c ≤ y ∧ y ≤ d := by
  have ot := checkTrackP_ok s.trk
  have op := checkPixelP_ok hp
  obtain ⟨m1, m2, m3, m4, m5, m6, d1, d2, d3, d4⟩ := box_bd ot op
  have hpl := placeB_iff.1 s.plc
  have htop := op.top
  have hoff := s.off
  have hdeep := s.deep
  obtain ⟨c1, c2⟩ := squareP_bd t x z ot.sx1 ot.sx2 ot.sz1 ot.sz2 (by omega) (by omega) (by omega) (by omega)
  obtain ⟨r0, r1, r2⟩ := rootP_spec (squareP t x z) c1 (by omega)
  have g1 := (@le_bin t (rootP (squareP t x z)) q.bin ot.bi1).1 (by have := s.bin; omega)
  have g2 := (@bin_le t (rootP (squareP t x z)) q.bin ot.bi1).1 (by have := s.bin; omega)
  have hn := ot.ne1
  have e1 := sq_mono (a := t.near + t.bin * q.bin) (b := rootP (squareP t x z)) (by omega) g1
  have e2 := sq_mono (a := rootP (squareP t x z) + 1) (b := t.near + t.bin * q.bin + t.bin) (by omega) (by omega)
  have e3 := sq_mono (a := depthP t q.hi) (b := depthP t z) (by unfold depthP; omega) (by unfold depthP; omega)
  have e4 := sq_mono (a := depthP t z) (b := depthP t q.lo) (by omega) (by unfold depthP; omega)
  have e5 : squareP t x z = offP t x * offP t x + depthP t z * depthP t z := rfl
  have e6 := sq_mono (a := 1) (b := offP t x) (by omega) hoff
  have hm : mostP t q = (t.near + t.bin * q.bin + t.bin) * (t.near + t.bin * q.bin + t.bin) - 1 - depthP t q.hi * depthP t q.hi := rfl
  have hl : leastP t q = (t.near + t.bin * q.bin) * (t.near + t.bin * q.bin) - depthP t q.lo * depthP t q.lo := rfl
  have k1 : offP t x ≤ rootP (mostP t q) := le_rootP (by omega) (by omega) (by omega)
  have k2 : rootUpP (max 1 (leastP t q)) ≤ offP t x := rootUpP_le (by omega) (by omega) (by omega) (by omega)
  obtain ⟨w1, w2⟩ := row_of ot s.line
  refine ⟨_, _, _, _, by unfold boxOfP; rw [if_pos s.trk, if_pos hp, if_neg (by omega), if_neg (by omega)], ?_, ?_, w1, w2⟩
  · unfold columnsP
    unfold offP at k1 k2
    cases he : t.east <;> simp [he] at k1 k2 ⊢ <;> omega
  · unfold columnsP
    unfold offP at k1 k2
    cases he : t.east <;> simp [he] at k1 k2 ⊢ <;> omega
end Go.Proofs.Ytokpdmlmlkkekaa
