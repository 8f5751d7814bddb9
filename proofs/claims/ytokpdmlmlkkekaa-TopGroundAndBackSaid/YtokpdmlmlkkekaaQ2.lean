/- InPixel: the program, its answer. -/
import Derived.Test.YtokpdmlmlkkekaaQ1
import Derived.Test.YtokpdmlmlkkekaaZT
import Derived.Deep.CutRange
namespace Go.Proofs.Ytokpdmlmlkkekaa
set_option linter.unusedVariables false
open Go.RowKit
theorem wp_world3 {P : Program} {c : Code} {Q : Exit → Act → World → Prop} {a : Act} {w : World} (F : World → Prop) (hf : F w) (h : ∀ W, F W → Code.wp P c Q a W) : Code.wp P c Q a w := h w hf
theorem then_world {K : Exit → Act → World → Prop} {G : (Exit → Act → World → Prop) → Exit → Act → World → Prop} {a : Act} {w : World} (F : World → Prop) (hf : F w) (h : ∀ W, F W → G K .normal a W) : G K .normal a w := h w hf
/-- Block B holds a track, a pixel, a box. -/
def TrackAt (w : World) (B : Nat) (t : Trk) : Prop := w.cell? ⟨B, 0, none⟩ = some (.int .i64 t.sx) ∧ w.cell? ⟨B, 1, none⟩ = some (.int .i64 t.sy) ∧ w.cell? ⟨B, 2, none⟩ = some (.int .i64 t.sz) ∧ w.cell? ⟨B, 3, none⟩ = some (.int .i64 t.step) ∧ w.cell? ⟨B, 4, none⟩ = some (.int .i64 t.lines) ∧ w.cell? ⟨B, 5, none⟩ = some (.int .i64 t.near) ∧ w.cell? ⟨B, 6, none⟩ = some (.int .i64 t.bin) ∧ w.cell? ⟨B, 7, none⟩ = some (.int .i64 t.bins) ∧ w.cell? ⟨B, 8, none⟩ = some (.bool t.east)
def IntsAt4 (w : World) (B : Nat) (a b c d : Int) : Prop := w.cell? ⟨B, 0, none⟩ = some (.int .i64 a) ∧ w.cell? ⟨B, 1, none⟩ = some (.int .i64 b) ∧ w.cell? ⟨B, 2, none⟩ = some (.int .i64 c) ∧ w.cell? ⟨B, 3, none⟩ = some (.int .i64 d)
def IntsAt2 (w : World) (B : Nat) (a b : Int) : Prop := w.cell? ⟨B, 0, none⟩ = some (.int .i64 a) ∧ w.cell? ⟨B, 1, none⟩ = some (.int .i64 b)
theorem TrackAt.below {w w' : World} {B C : Nat} {t : Trk} (h : TrackAt w B t) (hB : B < C) (hw : Below C w w') : TrackAt w' B t := by
  obtain ⟨h0, h1, h2, h3, h4, h5, h6, h7, h8⟩ := h
  exact ⟨(hw.cell hB).trans h0, (hw.cell hB).trans h1, (hw.cell hB).trans h2, (hw.cell hB).trans h3, (hw.cell hB).trans h4, (hw.cell hB).trans h5, (hw.cell hB).trans h6, (hw.cell hB).trans h7, (hw.cell hB).trans h8⟩
theorem IntsAt4.below {w w' : World} {B C : Nat} {a b c d : Int} (h : IntsAt4 w B a b c d) (hB : B < C) (hw : Below C w w') : IntsAt4 w' B a b c d := by
  obtain ⟨h0, h1, h2, h3⟩ := h
  exact ⟨(hw.cell hB).trans h0, (hw.cell hB).trans h1, (hw.cell hB).trans h2, (hw.cell hB).trans h3⟩
theorem IntsAt2.below {w w' : World} {B C : Nat} {a b : Int} (h : IntsAt2 w B a b) (hB : B < C) (hw : Below C w w') : IntsAt2 w' B a b := by
  obtain ⟨h0, h1⟩ := h
  exact ⟨(hw.cell hB).trans h0, (hw.cell hB).trans h1⟩
theorem lineP_bd {t : Trk} {y : Int} (o : t.Ok) (h1 : -100000000 ≤ y) (h2 : y ≤ 100000000) : -1000000000 ≤ lineP t y ∧ lineP t y ≤ 1000000000 := by
  obtain ⟨h_sx1, h_sx2, h_sy1, h_sy2, h_sz1, h_sz2, h_st0, h_st1, h_st2, -, -, -, -, -, -, -, -⟩ := o
  unfold lineP floorP
  have key : ∀ n c : Int, 1 ≤ c → -200000000 ≤ n → n ≤ 200000000 → -1000000000 ≤ n / c ∧ n / c ≤ 1000000000 := by
    intro n c hc g1 g2
    constructor
    · have : -200000000 ≤ n / c := (Int.le_ediv_iff_mul_le (by omega)).2 (by
        have : 200000000 * 1 ≤ 200000000 * c := Int.mul_le_mul_of_nonneg_left hc (by omega)
        rw [Int.neg_mul]; omega)
      omega
    · rcases Int.le_total 0 n with h | h
      · have := Int.ediv_le_self c h; omega
      · have := Int.ediv_le_ediv (c := c) (by omega) h
        rw [Int.zero_ediv] at this; omega
  split
  · exact key _ _ (by omega) (by omega) (by omega)
  · exact key _ _ (by omega) (by omega) (by omega)
theorem offs_bd {t : Trk} {b : Bx} (o : t.Ok) (p : b.Ok) : -200000000 ≤ offLoP t b.x1 b.x2 ∧ offLoP t b.x1 b.x2 ≤ 200000000 ∧ -200000000 ≤ offHiP t b.x1 b.x2 ∧ offHiP t b.x1 b.x2 ≤ 200000000 ∧ offLoP t b.x1 b.x2 ≤ offHiP t b.x1 b.x2 := by
  have := o.sx1; have := o.sx2
  obtain ⟨x1a, x1b, x2a, x2b, -, -, -, -, xo, -⟩ := p
  unfold offLoP offHiP offP
  cases t.east <;> simp <;> omega
set_option maxRecDepth 20000 in
set_option maxHeartbeats 8000000 in
theorem inPixel_ok (t : Trk) (q : Pix) (b : Bx) (w : World) (ht : checkTrackP t = 0) (hp : checkPixelP t q = 0) (hb : boxErrP b = 0) :
    Calls Try.prog 66 #[.agg #[.int .i64 t.sx, .int .i64 t.sy, .int .i64 t.sz, .int .i64 t.step, .int .i64 t.lines, .int .i64 t.near, .int .i64 t.bin, .int .i64 t.bins, .bool t.east], .agg #[.int .i64 q.line, .int .i64 q.bin, .int .i64 q.lo, .int .i64 q.hi], .agg #[.int .i64 b.x1, .int .i64 b.x2, .int .i64 b.y1, .int .i64 b.y2]] w fun e w' => e = .returned (.tuple #[.int .i64 (inPixelP t q b), .int .i64 0]) ∧ Below w.heap.size w w' := by
  have ot := checkTrackP_ok ht
  have op := checkPixelP_ok hp
  have ob := boxErrP_ok hb
  obtain ⟨o1, o2, o3, o4, o5⟩ := offs_bd ot ob
  obtain ⟨m1, m2, -, -, -, -, d1, d2, d3, d4⟩ := box_bd ot op
  have OT := Lib.hid ot
  have HT := Lib.hid ht
  have HP := Lib.hid hp
  have HB := Lib.hid hb
  obtain ⟨sx1, sx2, sy1, sy2, sz1, sz2, -, -, -, l1, l2, ne1, ne2, bi1, bi2, n1, n2⟩ := ot
  obtain ⟨-, -, b1, b2, lo1, lo2, hi1, hi2, hord, htop⟩ := op
  obtain ⟨x1a, x1b, x2a, x2b, y1a, y1b, y2a, y2b, xo, yo⟩ := ob
  have e1 : offLoP t b.x1 b.x2 ≤ offHiP t b.x1 b.x2 := o5
  have HZ := Lib.hid (show inPixelP t q b = if offHiP t b.x1 b.x2 < 1 then 0
    else if !inR (l1P t b) (l2P t b) q.line || (decide (s2P t q b < t.near + t.bin * q.bin) || decide (t.near + t.bin * q.bin + t.bin - 1 < s1P t q b)) then 0
    else if decide (1 ≤ offLoP t b.x1 b.x2) && (decide (l1P t b = l2P t b) && (decide (t.near + t.bin * q.bin ≤ s1P t q b) && decide (s2P t q b ≤ t.near + t.bin * q.bin + t.bin - 1))) then 2 else 1 from rfl)
  have q1 := sq_bd (max 1 (offLoP t b.x1 b.x2)) 200000000 (by omega) (by omega)
  have q2 := sq_bd (offHiP t b.x1 b.x2) 200000000 (by omega) (by omega)
  obtain ⟨q11, q12⟩ := q1
  obtain ⟨q21, q22⟩ := q2
  obtain ⟨u1, u2⟩ := lineP_bd OT.out y1a y1b
  obtain ⟨u3, u4⟩ := lineP_bd OT.out y2a y2b
  have r1 := rootP_le (max 1 (offLoP t b.x1 b.x2) * max 1 (offLoP t b.x1 b.x2) + depthP t q.hi * depthP t q.hi) (by omega) (by omega)
  have r2 := rootP_le (offHiP t b.x1 b.x2 * offHiP t b.x1 b.x2 + depthP t q.lo * depthP t q.lo) (by omega) (by omega)
  have HR := Lib.hid (show ∀ (a c : Int) (w : World), 0 ≤ a * a → a * a ≤ 200000000 * 200000000 → 0 ≤ c * c → c * c ≤ 10020010000000000 → Calls Try.prog 82 #[.int .i64 (IntKind.i64.wrap (IntKind.i64.wrap (a * a) + IntKind.i64.wrap (c * c)))] w fun e w' => e = .returned (.int .i64 (rootP (a * a + c * c))) ∧ w = w' from fun a c w g1 g2 g3 g4 => by
    rw [IntWalk.i64_in (a * a) (by omega), IntWalk.i64_in (c * c) (by omega), IntWalk.i64_in _ (by omega)]
    exact root_any _ _ (by omega) (by omega))
  clear ht hp hb
  by_cases h0 : offHiP t b.x1 b.x2 < 1
  · have HZ2 := Lib.hid (show inPixelP t q b = 0 by rw [HZ.out, if_pos h0])
    clear HZ
    go_enter Try.func66, Try.ntmps66
    go_wp2_with (first | (go_at_call 26; refine (checkTrack_e t _ HT.out).mono ?_; rintro e w' ⟨rfl, hb⟩; obtain ⟨pp, rfl⟩ := later_of_below hb; clear hb))
    go_region_held3 (fun w' => w'.cell? ⟨w.heap.size + 1 + 1 + 1, 0, none⟩ = some (.int .i64 t.sx) ∧ w'.cell? ⟨w.heap.size + 1 + 1 + 1, 1, none⟩ = some (.int .i64 t.sy) ∧ w'.cell? ⟨w.heap.size + 1 + 1 + 1, 2, none⟩ = some (.int .i64 t.sz) ∧ w'.cell? ⟨w.heap.size + 1 + 1 + 1, 3, none⟩ = some (.int .i64 t.step) ∧ w'.cell? ⟨w.heap.size + 1 + 1 + 1, 4, none⟩ = some (.int .i64 t.lines) ∧ w'.cell? ⟨w.heap.size + 1 + 1 + 1, 5, none⟩ = some (.int .i64 t.near) ∧ w'.cell? ⟨w.heap.size + 1 + 1 + 1, 6, none⟩ = some (.int .i64 t.bin) ∧ w'.cell? ⟨w.heap.size + 1 + 1 + 1, 7, none⟩ = some (.int .i64 t.bins) ∧ w'.cell? ⟨w.heap.size + 1 + 1 + 1, 8, none⟩ = some (.bool t.east) ∧ w'.cell? ⟨w.heap.size + 1, 0, none⟩ = some (.int .i64 q.line) ∧ w'.cell? ⟨w.heap.size + 1, 1, none⟩ = some (.int .i64 q.bin) ∧ w'.cell? ⟨w.heap.size + 1, 2, none⟩ = some (.int .i64 q.lo) ∧ w'.cell? ⟨w.heap.size + 1, 3, none⟩ = some (.int .i64 q.hi) ∧ w'.cell? ⟨w.heap.size + 1 + 1, 0, none⟩ = some (.int .i64 b.x1) ∧ w'.cell? ⟨w.heap.size + 1 + 1, 1, none⟩ = some (.int .i64 b.x2) ∧ w'.cell? ⟨w.heap.size + 1 + 1, 2, none⟩ = some (.int .i64 b.y1) ∧ w'.cell? ⟨w.heap.size + 1 + 1, 3, none⟩ = some (.int .i64 b.y2)) (first | ((first | (simp [go_sem]; done) | simp [go_sem, ↓IntWalk.iteOmega]); done)) (first | (go_at_call 79; refine (checkPixel_e t q _ HP.out (by omega) (by omega) (by omega) (by omega)).mono ?_; rintro e w' ⟨rfl, hb⟩; obtain ⟨pp, rfl⟩ := later_of_below hb; clear hb) | (go_at_call 132; refine (check_any b _ HB.out).mono ?_; rintro e w' ⟨rfl, hb⟩; obtain ⟨pp, rfl⟩ := later_of_below hb; clear hb) | (go_at_call 109; refine (first_e 0 0 _ _ (e0 := 0) rfl (by (first | (simp [go_sem]; done) | simp [go_sem, ↓IntWalk.iteOmega])) (by (first | (simp [go_sem]; done) | simp [go_sem, ↓IntWalk.iteOmega]))).mono ?_; rintro e w' ⟨rfl, rfl⟩))
    go_wp2_with (first | (go_at_call 134; refine (offs_any t _ _ _ (by omega) (by omega) (by omega) (by omega) (by omega) (by omega)).mono ?_; rintro e w' ⟨rfl, hb⟩; obtain ⟨p5, rfl⟩ := later_of_below hb; clear hb))
    go_ret2
    exact ⟨by (rw [HZ2.out]) <;> first | rfl | (simp; done), (by (repeat' (first | with_reducible exact Below.refl _ _ | (with_reducible refine below_later_of ?_ ?_ _) | (with_reducible refine Below.alloc ?_ ?_ _) | (with_reducible refine Below.setCell ?_ ?_ _) | (with_reducible refine Below.drew ?_) | (simp; done) | (simp; omega) | omega)))⟩
  · have HZ2 := Lib.hid (HZ.out.trans (if_neg h0))
    clear HZ
    go_enter Try.func66, Try.ntmps66
    go_wp2_with (first | (go_at_call 26; refine (checkTrack_e t _ HT.out).mono ?_; rintro e w' ⟨rfl, hb⟩; obtain ⟨pp, rfl⟩ := later_of_below hb; clear hb))
    go_region_held3 (fun w' => w'.cell? ⟨w.heap.size + 1 + 1 + 1, 0, none⟩ = some (.int .i64 t.sx) ∧ w'.cell? ⟨w.heap.size + 1 + 1 + 1, 1, none⟩ = some (.int .i64 t.sy) ∧ w'.cell? ⟨w.heap.size + 1 + 1 + 1, 2, none⟩ = some (.int .i64 t.sz) ∧ w'.cell? ⟨w.heap.size + 1 + 1 + 1, 3, none⟩ = some (.int .i64 t.step) ∧ w'.cell? ⟨w.heap.size + 1 + 1 + 1, 4, none⟩ = some (.int .i64 t.lines) ∧ w'.cell? ⟨w.heap.size + 1 + 1 + 1, 5, none⟩ = some (.int .i64 t.near) ∧ w'.cell? ⟨w.heap.size + 1 + 1 + 1, 6, none⟩ = some (.int .i64 t.bin) ∧ w'.cell? ⟨w.heap.size + 1 + 1 + 1, 7, none⟩ = some (.int .i64 t.bins) ∧ w'.cell? ⟨w.heap.size + 1 + 1 + 1, 8, none⟩ = some (.bool t.east) ∧ w'.cell? ⟨w.heap.size + 1, 0, none⟩ = some (.int .i64 q.line) ∧ w'.cell? ⟨w.heap.size + 1, 1, none⟩ = some (.int .i64 q.bin) ∧ w'.cell? ⟨w.heap.size + 1, 2, none⟩ = some (.int .i64 q.lo) ∧ w'.cell? ⟨w.heap.size + 1, 3, none⟩ = some (.int .i64 q.hi) ∧ w'.cell? ⟨w.heap.size + 1 + 1, 0, none⟩ = some (.int .i64 b.x1) ∧ w'.cell? ⟨w.heap.size + 1 + 1, 1, none⟩ = some (.int .i64 b.x2) ∧ w'.cell? ⟨w.heap.size + 1 + 1, 2, none⟩ = some (.int .i64 b.y1) ∧ w'.cell? ⟨w.heap.size + 1 + 1, 3, none⟩ = some (.int .i64 b.y2)) (first | ((first | (simp [go_sem]; done) | simp [go_sem, ↓IntWalk.iteOmega]); done)) (first | (go_at_call 79; refine (checkPixel_e t q _ HP.out (by omega) (by omega) (by omega) (by omega)).mono ?_; rintro e w' ⟨rfl, hb⟩; obtain ⟨pp, rfl⟩ := later_of_below hb; clear hb) | (go_at_call 132; refine (check_any b _ HB.out).mono ?_; rintro e w' ⟨rfl, hb⟩; obtain ⟨pp, rfl⟩ := later_of_below hb; clear hb) | (go_at_call 109; refine (first_e 0 0 _ _ (e0 := 0) rfl (by (first | (simp [go_sem]; done) | simp [go_sem, ↓IntWalk.iteOmega])) (by (first | (simp [go_sem]; done) | simp [go_sem, ↓IntWalk.iteOmega]))).mono ?_; rintro e w' ⟨rfl, rfl⟩))
    rename_i hheld
    clear hheld
    refine then_world (G := fun K => Exit.then _ K) (fun W => TrackAt W (w.heap.size + 1 + 1 + 1) t ∧ IntsAt4 W (w.heap.size + 1) q.line q.bin q.lo q.hi ∧ IntsAt4 W (w.heap.size + 1 + 1) b.x1 b.x2 b.y1 b.y2 ∧ Below w.heap.size w W ∧ w.heap.size + 1 + 1 + 1 < W.heap.size)
      ⟨⟨(by (first | (simp [go_sem]; done) | simp [go_sem, ↓IntWalk.iteOmega])), (by (first | (simp [go_sem]; done) | simp [go_sem, ↓IntWalk.iteOmega])), (by (first | (simp [go_sem]; done) | simp [go_sem, ↓IntWalk.iteOmega])), (by (first | (simp [go_sem]; done) | simp [go_sem, ↓IntWalk.iteOmega])), (by (first | (simp [go_sem]; done) | simp [go_sem, ↓IntWalk.iteOmega])), (by (first | (simp [go_sem]; done) | simp [go_sem, ↓IntWalk.iteOmega])), (by (first | (simp [go_sem]; done) | simp [go_sem, ↓IntWalk.iteOmega])), (by (first | (simp [go_sem]; done) | simp [go_sem, ↓IntWalk.iteOmega])), (by (first | (simp [go_sem]; done) | simp [go_sem, ↓IntWalk.iteOmega]))⟩, ⟨(by (first | (simp [go_sem]; done) | simp [go_sem, ↓IntWalk.iteOmega])), (by (first | (simp [go_sem]; done) | simp [go_sem, ↓IntWalk.iteOmega])), (by (first | (simp [go_sem]; done) | simp [go_sem, ↓IntWalk.iteOmega])), (by (first | (simp [go_sem]; done) | simp [go_sem, ↓IntWalk.iteOmega]))⟩, ⟨(by (first | (simp [go_sem]; done) | simp [go_sem, ↓IntWalk.iteOmega])), (by (first | (simp [go_sem]; done) | simp [go_sem, ↓IntWalk.iteOmega])), (by (first | (simp [go_sem]; done) | simp [go_sem, ↓IntWalk.iteOmega])), (by (first | (simp [go_sem]; done) | simp [go_sem, ↓IntWalk.iteOmega]))⟩, (by (repeat' (first | with_reducible exact Below.refl _ _ | (with_reducible refine below_later_of ?_ ?_ _) | (with_reducible refine Below.alloc ?_ ?_ _) | (with_reducible refine Below.setCell ?_ ?_ _) | (with_reducible refine Below.drew ?_) | (simp; done) | (simp; omega) | omega))), by simp; omega⟩ ?_
    rintro W5 ⟨kk, jj, ii, hb5, hs5⟩
    have KK := Lib.hid kk
    have JJ := Lib.hid jj
    have II := Lib.hid ii
    obtain ⟨k0, k1, k2, k3, k4, k5, k6, k7, k8⟩ := kk
    obtain ⟨j0, j1, j2, j3⟩ := jj
    obtain ⟨i0, i1, i2, i3⟩ := ii
    have HB5 := Lib.hid hb5
    clear hb5
    go_wp2_with (first | (go_at_call 134; refine (offs_any t _ _ _ (by omega) (by omega) (by omega) (by omega) (by omega) (by omega)).mono ?_; rintro e w' ⟨rfl, hb⟩; obtain ⟨p5, rfl⟩ := later_of_below hb; clear hb))
    obtain ⟨B11, hB11⟩ : ∃ B11, B11 = W5.heap.size + p5.os.size := ⟨_, rfl⟩
    refine wp_world3 (fun W => TrackAt W (w.heap.size + 1 + 1 + 1) t ∧ IntsAt4 W (w.heap.size + 1) q.line q.bin q.lo q.hi ∧ IntsAt4 W (w.heap.size + 1 + 1) b.x1 b.x2 b.y1 b.y2 ∧ IntsAt2 W B11 (offLoP t b.x1 b.x2) (offHiP t b.x1 b.x2) ∧ Below w.heap.size w W ∧ w.heap.size + 1 + 1 + 1 < W.heap.size ∧ B11 < W.heap.size)
      ⟨KK.out.below hs5 (by (repeat' (first | with_reducible exact Below.refl _ _ | (with_reducible refine below_later_of ?_ ?_ _) | (with_reducible refine Below.alloc ?_ ?_ _) | (with_reducible refine Below.setCell ?_ ?_ _) | (with_reducible refine Below.drew ?_) | (simp; done) | (simp; omega) | omega))), JJ.out.below (C := W5.heap.size) (by omega) (by (repeat' (first | with_reducible exact Below.refl _ _ | (with_reducible refine below_later_of ?_ ?_ _) | (with_reducible refine Below.alloc ?_ ?_ _) | (with_reducible refine Below.setCell ?_ ?_ _) | (with_reducible refine Below.drew ?_) | (simp; done) | (simp; omega) | omega))), II.out.below (C := W5.heap.size) (by omega) (by (repeat' (first | with_reducible exact Below.refl _ _ | (with_reducible refine below_later_of ?_ ?_ _) | (with_reducible refine Below.alloc ?_ ?_ _) | (with_reducible refine Below.setCell ?_ ?_ _) | (with_reducible refine Below.drew ?_) | (simp; done) | (simp; omega) | omega))), ?_, HB5.out.trans (below_mono_of (show w.heap.size ≤ W5.heap.size by omega) (by (repeat' (first | with_reducible exact Below.refl _ _ | (with_reducible refine below_later_of ?_ ?_ _) | (with_reducible refine Below.alloc ?_ ?_ _) | (with_reducible refine Below.setCell ?_ ?_ _) | (with_reducible refine Below.drew ?_) | (simp; done) | (simp; omega) | omega)))), by simp; omega, by simp; omega⟩ ?_
    · subst hB11
      exact ⟨(by (first | (simp [go_sem]; done) | simp [go_sem, ↓IntWalk.iteOmega])), (by (first | (simp [go_sem]; done) | simp [go_sem, ↓IntWalk.iteOmega]))⟩
    clear k0 k1 k2 k3 k4 k5 k6 k7 k8 j0 j1 j2 j3 i0 i1 i2 i3 HB5 KK JJ II
    rintro W8 ⟨kk, jj, ii, ff, hb8, hs8, hs11⟩
    have KK := Lib.hid kk
    have JJ := Lib.hid jj
    have II := Lib.hid ii
    have FF := Lib.hid ff
    obtain ⟨k0, k1, k2, k3, k4, k5, k6, k7, k8⟩ := kk
    obtain ⟨j0, j1, j2, j3⟩ := jj
    obtain ⟨i0, i1, i2, i3⟩ := ii
    obtain ⟨f0, f1⟩ := ff
    rw [← hB11]
    have HB8 := Lib.hid hb8
    clear hb8 hB11
    refine wp_region_calm (by kernel_rfl) (by kernel_rfl) ?_
    repeat (go_big_quiet_step (first | (go_at_call 80; exact calm_of (depth_any t _ _ (by omega) (by omega) (by omega) (by omega)))))
    refine wpQuiet_nil ?_
    rintro _ ⟨p2, rfl⟩
    go_wp2
    go_cut [15] from 57 to 75 (fun x wx => ∃ B15, x = .pointer (some ⟨B15, 0, none⟩) ∧ TrackAt wx (w.heap.size + 1 + 1 + 1) t ∧ IntsAt4 wx (w.heap.size + 1) q.line q.bin q.lo q.hi ∧ IntsAt4 wx (w.heap.size + 1 + 1) b.x1 b.x2 b.y1 b.y2 ∧ IntsAt2 wx B11 (offLoP t b.x1 b.x2) (offHiP t b.x1 b.x2) ∧ IntsAt2 wx B15 (s1P t q b) (s2P t q b) ∧ Below w.heap.size w wx ∧ w.heap.size + 1 + 1 + 1 < wx.heap.size ∧ B11 < wx.heap.size ∧ B15 < wx.heap.size)
    case first =>
      go_region_held3 (fun w' => w'.cell? ⟨B11, 0, none⟩ = some (.int .i64 (offLoP t b.x1 b.x2)) ∧ w'.cell? ⟨B11, 1, none⟩ = some (.int .i64 (offHiP t b.x1 b.x2))) (exact FF.out.below hs11 (by (repeat' (first | with_reducible exact Below.refl _ _ | (with_reducible refine below_later_of ?_ ?_ _) | (with_reducible refine Below.alloc ?_ ?_ _) | (with_reducible refine Below.setCell ?_ ?_ _) | (with_reducible refine Below.drew ?_) | (simp; done) | (simp; omega) | omega)))) (first | (go_at_call 82; refine (HR.out _ _ _ (by assumption) (by assumption) (by assumption) (by assumption)).mono ?_; rintro e w' ⟨rfl, rfl⟩))
      all_goals
        go_wp2_with fail
        go_meet
        exact ⟨_, rfl, KK.out.below hs8 (by (repeat' (first | with_reducible exact Below.refl _ _ | (with_reducible refine below_later_of ?_ ?_ _) | (with_reducible refine Below.alloc ?_ ?_ _) | (with_reducible refine Below.setCell ?_ ?_ _) | (with_reducible refine Below.drew ?_) | (simp; done) | (simp; omega) | omega))), JJ.out.below (C := W8.heap.size) (by omega) (by (repeat' (first | with_reducible exact Below.refl _ _ | (with_reducible refine below_later_of ?_ ?_ _) | (with_reducible refine Below.alloc ?_ ?_ _) | (with_reducible refine Below.setCell ?_ ?_ _) | (with_reducible refine Below.drew ?_) | (simp; done) | (simp; omega) | omega))), II.out.below (C := W8.heap.size) (by omega) (by (repeat' (first | with_reducible exact Below.refl _ _ | (with_reducible refine below_later_of ?_ ?_ _) | (with_reducible refine Below.alloc ?_ ?_ _) | (with_reducible refine Below.setCell ?_ ?_ _) | (with_reducible refine Below.drew ?_) | (simp; done) | (simp; omega) | omega))), FF.out.below hs11 (by (repeat' (first | with_reducible exact Below.refl _ _ | (with_reducible refine below_later_of ?_ ?_ _) | (with_reducible refine Below.alloc ?_ ?_ _) | (with_reducible refine Below.setCell ?_ ?_ _) | (with_reducible refine Below.drew ?_) | (simp; done) | (simp; omega) | omega))), ⟨by (first | (simp [go_sem, s1P]; done) | simp [go_sem, s1P, ↓IntWalk.iteOmega]), by (first | (simp [go_sem, s2P]; done) | simp [go_sem, s2P, ↓IntWalk.iteOmega])⟩, HB8.out.trans (below_mono_of (show w.heap.size ≤ W8.heap.size by omega) (by (repeat' (first | with_reducible exact Below.refl _ _ | (with_reducible refine below_later_of ?_ ?_ _) | (with_reducible refine Below.alloc ?_ ?_ _) | (with_reducible refine Below.setCell ?_ ?_ _) | (with_reducible refine Below.drew ?_) | (simp; done) | (simp; omega) | omega)))), by (simp <;> omega), by (simp <;> omega), by (simp <;> omega)⟩
    case rest =>
      obtain ⟨B15, rfl, kk, jj, ii, ff, ss, hb9, hs9, hs11', hs15⟩ := hcut
      clear k0 k1 k2 k3 k4 k5 k6 k7 k8 j0 j1 j2 j3 i0 i1 i2 i3 f0 f1 KK JJ II FF
      obtain ⟨k0, k1, k2, k3, k4, k5, k6, k7, k8⟩ := kk
      obtain ⟨j0, j1, j2, j3⟩ := jj
      obtain ⟨i0, i1, i2, i3⟩ := ii
      obtain ⟨f0, f1⟩ := ff
      obtain ⟨s0, s1⟩ := ss
      have HB9 := Lib.hid hb9
      clear hb9
      generalize s1P t q b = sl at *
      generalize s2P t q b = sh at *
      have hl1 : l1P t b = min (lineP t b.y1) (lineP t b.y2) := rfl
      have hl2 : l2P t b = max (lineP t b.y1) (lineP t b.y2) := rfl
      have HL1 := Lib.hid hl1
      have HL2 := Lib.hid hl2
      clear hl1 hl2
      go_wp2
      refine wp_region_calm (by kernel_rfl) (by kernel_rfl) ?_
      repeat (go_big_quiet_step (first | (go_at_call 90; exact calm_of (line_any t _ _ OT.out (by omega) (by omega)))))
      refine wpQuiet_nil ?_
      rintro _ ⟨p4, rfl⟩
      generalize lineP t b.y1 = one at *
      generalize lineP t b.y2 = two at *
      have hz := HZ2.out
      rw [HL1.out, HL2.out] at hz
      have HZ3 := Lib.hid hz
      clear hz HZ2 HL1 HL2
      cases c1 : inR (min one two) (max one two) q.line
      · have H1 := Lib.hid c1
        have HZ := Lib.hid (show inPixelP t q b = 0 by rw [HZ3.out, c1]; rfl)
        clear c1 HZ3
        (go_wp2_with (first | (go_at_call 135; refine (slants_any t _ _ (by omega) (by omega) (by omega) (by omega) (by omega) (by omega)).mono ?_; rintro e w' ⟨rfl, hb⟩; obtain ⟨pp, rfl⟩ := later_of_below hb; clear hb) | (go_at_call 91; (with_reducible refine (within_c _ _ _ _ H1.out).mono ?_); rintro e w' ⟨rfl, rfl⟩)); go_ret2; exact ⟨by (rw [HZ.out]) <;> first | rfl | (simp; done), HB9.out.trans (below_mono_of (show w.heap.size ≤ wc.heap.size by omega) (by (repeat' (first | with_reducible exact Below.refl _ _ | (with_reducible refine below_later_of ?_ ?_ _) | (with_reducible refine Below.alloc ?_ ?_ _) | (with_reducible refine Below.setCell ?_ ?_ _) | (with_reducible refine Below.drew ?_) | (simp; done) | (simp; omega) | omega))))⟩)
      have H1 := Lib.hid c1
      cases c2 : decide (sh < t.near + t.bin * q.bin)
      rotate_left
      · have HZ := Lib.hid (show inPixelP t q b = 0 by rw [HZ3.out, c1, c2]; rfl)
        clear c1 HZ3
        (go_wp2_with (first | (go_at_call 135; refine (slants_any t _ _ (by omega) (by omega) (by omega) (by omega) (by omega) (by omega)).mono ?_; rintro e w' ⟨rfl, hb⟩; obtain ⟨pp, rfl⟩ := later_of_below hb; clear hb) | (go_at_call 91; (with_reducible refine (within_c _ _ _ _ H1.out).mono ?_); rintro e w' ⟨rfl, rfl⟩)); go_ret2; exact ⟨by (rw [HZ.out]) <;> first | rfl | (simp; done), HB9.out.trans (below_mono_of (show w.heap.size ≤ wc.heap.size by omega) (by (repeat' (first | with_reducible exact Below.refl _ _ | (with_reducible refine below_later_of ?_ ?_ _) | (with_reducible refine Below.alloc ?_ ?_ _) | (with_reducible refine Below.setCell ?_ ?_ _) | (with_reducible refine Below.drew ?_) | (simp; done) | (simp; omega) | omega))))⟩)
      cases c3 : decide (t.near + t.bin * q.bin + t.bin - 1 < sl)
      rotate_left
      · have HZ := Lib.hid (show inPixelP t q b = 0 by rw [HZ3.out, c1, c2, c3]; rfl)
        clear c1 HZ3
        (go_wp2_with (first | (go_at_call 135; refine (slants_any t _ _ (by omega) (by omega) (by omega) (by omega) (by omega) (by omega)).mono ?_; rintro e w' ⟨rfl, hb⟩; obtain ⟨pp, rfl⟩ := later_of_below hb; clear hb) | (go_at_call 91; (with_reducible refine (within_c _ _ _ _ H1.out).mono ?_); rintro e w' ⟨rfl, rfl⟩)); go_ret2; exact ⟨by (rw [HZ.out]) <;> first | rfl | (simp; done), HB9.out.trans (below_mono_of (show w.heap.size ≤ wc.heap.size by omega) (by (repeat' (first | with_reducible exact Below.refl _ _ | (with_reducible refine below_later_of ?_ ?_ _) | (with_reducible refine Below.alloc ?_ ?_ _) | (with_reducible refine Below.setCell ?_ ?_ _) | (with_reducible refine Below.drew ?_) | (simp; done) | (simp; omega) | omega))))⟩)
      cases c4 : decide (1 ≤ offLoP t b.x1 b.x2)
      · have HZ := Lib.hid (show inPixelP t q b = 1 by rw [HZ3.out, c1, c2, c3, c4]; rfl)
        clear c1 HZ3
        (go_wp2_with (first | (go_at_call 135; refine (slants_any t _ _ (by omega) (by omega) (by omega) (by omega) (by omega) (by omega)).mono ?_; rintro e w' ⟨rfl, hb⟩; obtain ⟨pp, rfl⟩ := later_of_below hb; clear hb) | (go_at_call 91; (with_reducible refine (within_c _ _ _ _ H1.out).mono ?_); rintro e w' ⟨rfl, rfl⟩)); go_ret2; exact ⟨by (rw [HZ.out]) <;> first | rfl | (simp; done), HB9.out.trans (below_mono_of (show w.heap.size ≤ wc.heap.size by omega) (by (repeat' (first | with_reducible exact Below.refl _ _ | (with_reducible refine below_later_of ?_ ?_ _) | (with_reducible refine Below.alloc ?_ ?_ _) | (with_reducible refine Below.setCell ?_ ?_ _) | (with_reducible refine Below.drew ?_) | (simp; done) | (simp; omega) | omega))))⟩)
      cases c5 : decide (min one two = max one two)
      · have HZ := Lib.hid (show inPixelP t q b = 1 by rw [HZ3.out, c1, c2, c3, c4, c5]; rfl)
        have c5' : (min one two == max one two) = false := by simpa using c5
        clear c1 HZ3 c5
        (go_wp2_with (first | (go_at_call 135; refine (slants_any t _ _ (by omega) (by omega) (by omega) (by omega) (by omega) (by omega)).mono ?_; rintro e w' ⟨rfl, hb⟩; obtain ⟨pp, rfl⟩ := later_of_below hb; clear hb) | (go_at_call 91; (with_reducible refine (within_c _ _ _ _ H1.out).mono ?_); rintro e w' ⟨rfl, rfl⟩)); go_ret2; exact ⟨by (rw [HZ.out]) <;> first | rfl | (simp; done), HB9.out.trans (below_mono_of (show w.heap.size ≤ wc.heap.size by omega) (by (repeat' (first | with_reducible exact Below.refl _ _ | (with_reducible refine below_later_of ?_ ?_ _) | (with_reducible refine Below.alloc ?_ ?_ _) | (with_reducible refine Below.setCell ?_ ?_ _) | (with_reducible refine Below.drew ?_) | (simp; done) | (simp; omega) | omega))))⟩)
      have c5' : (min one two == max one two) = true := by simpa using c5
      cases c6 : decide (t.near + t.bin * q.bin ≤ sl)
      · have HZ := Lib.hid (show inPixelP t q b = 1 by rw [HZ3.out, c1, c2, c3, c4, c5, c6]; rfl)
        clear c1 HZ3 c5
        (go_wp2_with (first | (go_at_call 135; refine (slants_any t _ _ (by omega) (by omega) (by omega) (by omega) (by omega) (by omega)).mono ?_; rintro e w' ⟨rfl, hb⟩; obtain ⟨pp, rfl⟩ := later_of_below hb; clear hb) | (go_at_call 91; (with_reducible refine (within_c _ _ _ _ H1.out).mono ?_); rintro e w' ⟨rfl, rfl⟩)); go_ret2; exact ⟨by (rw [HZ.out]) <;> first | rfl | (simp; done), HB9.out.trans (below_mono_of (show w.heap.size ≤ wc.heap.size by omega) (by (repeat' (first | with_reducible exact Below.refl _ _ | (with_reducible refine below_later_of ?_ ?_ _) | (with_reducible refine Below.alloc ?_ ?_ _) | (with_reducible refine Below.setCell ?_ ?_ _) | (with_reducible refine Below.drew ?_) | (simp; done) | (simp; omega) | omega))))⟩)
      cases c7 : decide (sh ≤ t.near + t.bin * q.bin + t.bin - 1)
      · have HZ := Lib.hid (show inPixelP t q b = 1 by rw [HZ3.out, c1, c2, c3, c4, c5, c6, c7]; rfl)
        clear c1 HZ3 c5
        (go_wp2_with (first | (go_at_call 135; refine (slants_any t _ _ (by omega) (by omega) (by omega) (by omega) (by omega) (by omega)).mono ?_; rintro e w' ⟨rfl, hb⟩; obtain ⟨pp, rfl⟩ := later_of_below hb; clear hb) | (go_at_call 91; (with_reducible refine (within_c _ _ _ _ H1.out).mono ?_); rintro e w' ⟨rfl, rfl⟩)); go_ret2; exact ⟨by (rw [HZ.out]) <;> first | rfl | (simp; done), HB9.out.trans (below_mono_of (show w.heap.size ≤ wc.heap.size by omega) (by (repeat' (first | with_reducible exact Below.refl _ _ | (with_reducible refine below_later_of ?_ ?_ _) | (with_reducible refine Below.alloc ?_ ?_ _) | (with_reducible refine Below.setCell ?_ ?_ _) | (with_reducible refine Below.drew ?_) | (simp; done) | (simp; omega) | omega))))⟩)
      · have HZ := Lib.hid (show inPixelP t q b = 2 by rw [HZ3.out, c1, c2, c3, c4, c5, c6, c7]; rfl)
        clear c1 HZ3 c5
        (go_wp2_with (first | (go_at_call 135; refine (slants_any t _ _ (by omega) (by omega) (by omega) (by omega) (by omega) (by omega)).mono ?_; rintro e w' ⟨rfl, hb⟩; obtain ⟨pp, rfl⟩ := later_of_below hb; clear hb) | (go_at_call 91; (with_reducible refine (within_c _ _ _ _ H1.out).mono ?_); rintro e w' ⟨rfl, rfl⟩)); go_ret2; exact ⟨by (rw [HZ.out]) <;> first | rfl | (simp; done), HB9.out.trans (below_mono_of (show w.heap.size ≤ wc.heap.size by omega) (by (repeat' (first | with_reducible exact Below.refl _ _ | (with_reducible refine below_later_of ?_ ?_ _) | (with_reducible refine Below.alloc ?_ ?_ _) | (with_reducible refine Below.setCell ?_ ?_ _) | (with_reducible refine Below.drew ?_) | (simp; done) | (simp; omega) | omega))))⟩)
end Go.Proofs.Ytokpdmlmlkkekaa
