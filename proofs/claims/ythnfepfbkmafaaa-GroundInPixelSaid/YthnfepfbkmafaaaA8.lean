import Derived.Test.YthnfepfbkmafaaaA7
namespace Go.Proofs.Ythnfepfbkmafaaa
set_option linter.unusedVariables false
open Go.RowKit
set_option maxHeartbeats 2000000 in
theorem checkPixel_any (t : Trk) (q : Pix) (w : World) (l1 : 1 ≤ t.lines) (l2 : t.lines ≤ 10000) (n1 : 1 ≤ t.bins) (n2 : t.bins ≤ 100000) :
    Calls Try.prog 73 #[.agg #[.int .i64 t.sx, .int .i64 t.sy, .int .i64 t.sz, .int .i64 t.step, .int .i64 t.lines, .int .i64 t.near, .int .i64 t.bin, .int .i64 t.bins, .bool t.east], .agg #[.int .i64 q.line, .int .i64 q.bin, .int .i64 q.lo, .int .i64 q.hi]] w fun e w' => e = .returned (.int .i64 (checkPixelP t q)) ∧ Below w.heap.size w w' := by
  cases h1 : inR 0 (t.lines - 1) q.line
  · have HF := Lib.hid (show checkPixelP t q = 2 by unfold checkPixelP; rw [h1]; rfl)
    have H1 := Lib.hid h1
    clear h1
    go_enter Try.func73, Try.ntmps73
    go_wp2_with (first | (go_at_call 90; (with_reducible refine (all1 0 (t.lines - 1) q.line _ _ _ H1.out (by (first | (simp [go_sem]; done) | simp [go_sem, ↓IntWalk.iteOmega]))).mono ?_); rintro e w' ⟨rfl, rfl⟩))
    go_ret
    exact ⟨ret_int HF.out.symm, (by (repeat' (first | with_reducible exact Below.refl _ _ | (with_reducible refine below_later_of ?_ ?_ _) | (with_reducible refine Below.alloc ?_ ?_ _) | (with_reducible refine Below.setCell ?_ ?_ _) | (with_reducible refine Below.drew ?_) | (simp; done) | (simp; omega) | omega)))⟩
  · cases h2 : inR 0 (t.bins - 1) q.bin
    · have HF := Lib.hid (show checkPixelP t q = 2 by unfold checkPixelP; rw [h1, h2]; rfl)
      have H1 := Lib.hid h1
      have H2 := Lib.hid h2
      clear h1 h2
      go_enter Try.func73, Try.ntmps73
      go_wp2_with (first | (go_at_call 90; (with_reducible refine (all1 0 (t.lines - 1) q.line _ _ _ H1.out (by (first | (simp [go_sem]; done) | simp [go_sem, ↓IntWalk.iteOmega]))).mono ?_); rintro e w' ⟨rfl, rfl⟩) | (go_at_call 90; (with_reducible refine (all1 0 (t.bins - 1) q.bin _ _ _ H2.out (by (first | (simp [go_sem]; done) | simp [go_sem, ↓IntWalk.iteOmega]))).mono ?_); rintro e w' ⟨rfl, rfl⟩))
      go_ret
      exact ⟨ret_int HF.out.symm, (by (repeat' (first | with_reducible exact Below.refl _ _ | (with_reducible refine below_later_of ?_ ?_ _) | (with_reducible refine Below.alloc ?_ ?_ _) | (with_reducible refine Below.setCell ?_ ?_ _) | (with_reducible refine Below.drew ?_) | (simp; done) | (simp; omega) | omega)))⟩
    · cases h3 : heightsB q.lo q.hi
      · have HF := Lib.hid (show checkPixelP t q = 2 by unfold checkPixelP; rw [h1, h2, h3]; rfl)
        have H1 := Lib.hid h1
        have H2 := Lib.hid h2
        unfold heightsB at h3
        have H3 := Lib.hid h3
        clear h1 h2 h3
        go_enter Try.func73, Try.ntmps73
        go_wp2_with (first | (go_at_call 90; (with_reducible refine (all1 0 (t.lines - 1) q.line _ _ _ H1.out (by (first | (simp [go_sem]; done) | simp [go_sem, ↓IntWalk.iteOmega]))).mono ?_); rintro e w' ⟨rfl, rfl⟩) | (go_at_call 90; (with_reducible refine (all1 0 (t.bins - 1) q.bin _ _ _ H2.out (by (first | (simp [go_sem]; done) | simp [go_sem, ↓IntWalk.iteOmega]))).mono ?_); rintro e w' ⟨rfl, rfl⟩) | (go_at_call 90; (with_reducible refine (all2 (-100000) 100000 q.lo q.hi _ _ _ H3.out (by (first | (simp [go_sem]; done) | simp [go_sem, ↓IntWalk.iteOmega])) (by (first | (simp [go_sem]; done) | simp [go_sem, ↓IntWalk.iteOmega]))).mono ?_); rintro e w' ⟨rfl, rfl⟩))
        go_ret
        exact ⟨ret_int HF.out.symm, (by (repeat' (first | with_reducible exact Below.refl _ _ | (with_reducible refine below_later_of ?_ ?_ _) | (with_reducible refine Below.alloc ?_ ?_ _) | (with_reducible refine Below.setCell ?_ ?_ _) | (with_reducible refine Below.drew ?_) | (simp; done) | (simp; omega) | omega)))⟩
      · have HF := Lib.hid (show checkPixelP t q = if q.hi < q.lo then 9 else if t.sz ≤ q.hi then 26 else 0 by unfold checkPixelP; rw [h1, h2, h3]; rfl)
        have H1 := Lib.hid h1
        have H2 := Lib.hid h2
        unfold heightsB at h3
        have H3 := Lib.hid h3
        clear h1 h2 h3
        by_cases h4 : q.hi < q.lo
        · have HF' := Lib.hid (show checkPixelP t q = 9 by rw [HF.out, if_pos h4])
          clear HF
          go_enter Try.func73, Try.ntmps73
          go_wp2_with (first | (go_at_call 90; (with_reducible refine (all1 0 (t.lines - 1) q.line _ _ _ H1.out (by (first | (simp [go_sem]; done) | simp [go_sem, ↓IntWalk.iteOmega]))).mono ?_); rintro e w' ⟨rfl, rfl⟩) | (go_at_call 90; (with_reducible refine (all1 0 (t.bins - 1) q.bin _ _ _ H2.out (by (first | (simp [go_sem]; done) | simp [go_sem, ↓IntWalk.iteOmega]))).mono ?_); rintro e w' ⟨rfl, rfl⟩) | (go_at_call 90; (with_reducible refine (all2 (-100000) 100000 q.lo q.hi _ _ _ H3.out (by (first | (simp [go_sem]; done) | simp [go_sem, ↓IntWalk.iteOmega])) (by (first | (simp [go_sem]; done) | simp [go_sem, ↓IntWalk.iteOmega]))).mono ?_); rintro e w' ⟨rfl, rfl⟩))
          go_ret
          exact ⟨ret_int HF'.out.symm, (by (repeat' (first | with_reducible exact Below.refl _ _ | (with_reducible refine below_later_of ?_ ?_ _) | (with_reducible refine Below.alloc ?_ ?_ _) | (with_reducible refine Below.setCell ?_ ?_ _) | (with_reducible refine Below.drew ?_) | (simp; done) | (simp; omega) | omega)))⟩
        · by_cases h5 : t.sz ≤ q.hi
          · have HF' := Lib.hid (show checkPixelP t q = 26 by rw [HF.out, if_neg h4, if_pos h5])
            clear HF
            go_enter Try.func73, Try.ntmps73
            go_wp2_with (first | (go_at_call 90; (with_reducible refine (all1 0 (t.lines - 1) q.line _ _ _ H1.out (by (first | (simp [go_sem]; done) | simp [go_sem, ↓IntWalk.iteOmega]))).mono ?_); rintro e w' ⟨rfl, rfl⟩) | (go_at_call 90; (with_reducible refine (all1 0 (t.bins - 1) q.bin _ _ _ H2.out (by (first | (simp [go_sem]; done) | simp [go_sem, ↓IntWalk.iteOmega]))).mono ?_); rintro e w' ⟨rfl, rfl⟩) | (go_at_call 90; (with_reducible refine (all2 (-100000) 100000 q.lo q.hi _ _ _ H3.out (by (first | (simp [go_sem]; done) | simp [go_sem, ↓IntWalk.iteOmega])) (by (first | (simp [go_sem]; done) | simp [go_sem, ↓IntWalk.iteOmega]))).mono ?_); rintro e w' ⟨rfl, rfl⟩))
            go_ret
            exact ⟨ret_int HF'.out.symm, (by (repeat' (first | with_reducible exact Below.refl _ _ | (with_reducible refine below_later_of ?_ ?_ _) | (with_reducible refine Below.alloc ?_ ?_ _) | (with_reducible refine Below.setCell ?_ ?_ _) | (with_reducible refine Below.drew ?_) | (simp; done) | (simp; omega) | omega)))⟩
          · have HF' := Lib.hid (show checkPixelP t q = 0 by rw [HF.out, if_neg h4, if_neg h5])
            clear HF
            go_enter Try.func73, Try.ntmps73
            go_wp2_with (first | (go_at_call 90; (with_reducible refine (all1 0 (t.lines - 1) q.line _ _ _ H1.out (by (first | (simp [go_sem]; done) | simp [go_sem, ↓IntWalk.iteOmega]))).mono ?_); rintro e w' ⟨rfl, rfl⟩) | (go_at_call 90; (with_reducible refine (all1 0 (t.bins - 1) q.bin _ _ _ H2.out (by (first | (simp [go_sem]; done) | simp [go_sem, ↓IntWalk.iteOmega]))).mono ?_); rintro e w' ⟨rfl, rfl⟩) | (go_at_call 90; (with_reducible refine (all2 (-100000) 100000 q.lo q.hi _ _ _ H3.out (by (first | (simp [go_sem]; done) | simp [go_sem, ↓IntWalk.iteOmega])) (by (first | (simp [go_sem]; done) | simp [go_sem, ↓IntWalk.iteOmega]))).mono ?_); rintro e w' ⟨rfl, rfl⟩))
            go_ret
            exact ⟨ret_int HF'.out.symm, (by (repeat' (first | with_reducible exact Below.refl _ _ | (with_reducible refine below_later_of ?_ ?_ _) | (with_reducible refine Below.alloc ?_ ?_ _) | (with_reducible refine Below.setCell ?_ ?_ _) | (with_reducible refine Below.drew ?_) | (simp; done) | (simp; omega) | omega)))⟩
set_option maxHeartbeats 1000000 in
theorem columns_any (t : Trk) (lo hi : Int) (w : World) (h1 : -100000000 ≤ t.sx) (h2 : t.sx ≤ 100000000) (a1 : -5000000000 ≤ lo) (a2 : lo ≤ 5000000000) (b1 : -5000000000 ≤ hi) (b2 : hi ≤ 5000000000) :
    Calls Try.prog 77 #[.agg #[.int .i64 t.sx, .int .i64 t.sy, .int .i64 t.sz, .int .i64 t.step, .int .i64 t.lines, .int .i64 t.near, .int .i64 t.bin, .int .i64 t.bins, .bool t.east], .agg #[.int .i64 lo, .int .i64 hi]] w fun e w' => e = .returned (.agg #[.int .i64 (columnsP t lo hi).1, .int .i64 (columnsP t lo hi).2]) ∧ Below w.heap.size w w' := by
  cases he : t.east
  · have HF : columnsP t lo hi = (t.sx - hi, t.sx - lo) := by unfold columnsP; rw [he]; rfl
    rw [HF]
    go_enter Try.func77, Try.ntmps77
    go_wp2
    refine bodyPost_ret ?_ rfl ⟨rfl, (by (repeat' (first | with_reducible exact Below.refl _ _ | (with_reducible refine below_later_of ?_ ?_ _) | (with_reducible refine Below.alloc ?_ ?_ _) | (with_reducible refine Below.setCell ?_ ?_ _) | (with_reducible refine Below.drew ?_) | (simp; done) | (simp; omega) | omega)))⟩
    first | (simp [results, Try.results77, go_sem]; done) | simp [results, Try.results77, go_sem, ↓IntWalk.iteOmega]
  · have HF : columnsP t lo hi = (t.sx + lo, t.sx + hi) := by unfold columnsP; rw [he]; rfl
    rw [HF]
    go_enter Try.func77, Try.ntmps77
    go_wp2
    refine bodyPost_ret ?_ rfl ⟨rfl, (by (repeat' (first | with_reducible exact Below.refl _ _ | (with_reducible refine below_later_of ?_ ?_ _) | (with_reducible refine Below.alloc ?_ ?_ _) | (with_reducible refine Below.setCell ?_ ?_ _) | (with_reducible refine Below.drew ?_) | (simp; done) | (simp; omega) | omega)))⟩
    first | (simp [results, Try.results77, go_sem]; done) | simp [results, Try.results77, go_sem, ↓IntWalk.iteOmega]
set_option maxHeartbeats 1000000 in
theorem rows_any (t : Trk) (n : Int) (w : World) (o : t.Ok) (h0 : 0 ≤ n) (h1 : n ≤ 9999) :
    Calls Try.prog 78 #[.agg #[.int .i64 t.sx, .int .i64 t.sy, .int .i64 t.sz, .int .i64 t.step, .int .i64 t.lines, .int .i64 t.near, .int .i64 t.bin, .int .i64 t.bins, .bool t.east], .int .i64 n] w fun e w' => e = .returned (.agg #[.int .i64 (rowsP t n).1, .int .i64 (rowsP t n).2]) ∧ Below w.heap.size w w' := by
  obtain ⟨m1, m2⟩ := rows_bd o h0 (show n ≤ 10000 by omega)
  obtain ⟨k1, k2⟩ := rows_bd o (show 0 ≤ n + 1 by omega) (show n + 1 ≤ 10000 by omega)
  obtain ⟨-, -, h_sy1, h_sy2, -, -, -, -, -, -, -, -, -, -, -, -, -⟩ := o
  by_cases hs : t.step < 0
  · have HF : rowsP t n = (t.sy + (n + 1) * t.step + 1, t.sy + n * t.step) := by unfold rowsP; rw [if_pos hs]
    rw [HF]
    go_enter Try.func78, Try.ntmps78
    go_wp2
    refine wp_region_calm (by kernel_rfl) (by kernel_rfl) ?_
    repeat (go_big_quiet_step (fail))
    refine wpQuiet_nil ?_
    rintro _ ⟨p1, rfl⟩
    go_wp2
    refine bodyPost_ret ?_ rfl ⟨rfl, (by (repeat' (first | with_reducible exact Below.refl _ _ | (with_reducible refine below_later_of ?_ ?_ _) | (with_reducible refine Below.alloc ?_ ?_ _) | (with_reducible refine Below.setCell ?_ ?_ _) | (with_reducible refine Below.drew ?_) | (simp; done) | (simp; omega) | omega)))⟩
    first | (simp [results, Try.results78, go_sem]; done) | simp [results, Try.results78, go_sem, ↓IntWalk.iteOmega]
  · have HF : rowsP t n = (t.sy + n * t.step, t.sy + (n + 1) * t.step - 1) := by unfold rowsP; rw [if_neg hs]
    rw [HF]
    go_enter Try.func78, Try.ntmps78
    go_wp2
    refine wp_region_calm (by kernel_rfl) (by kernel_rfl) ?_
    repeat (go_big_quiet_step (fail))
    refine wpQuiet_nil ?_
    rintro _ ⟨p1, rfl⟩
    go_wp2
    refine bodyPost_ret ?_ rfl ⟨rfl, (by (repeat' (first | with_reducible exact Below.refl _ _ | (with_reducible refine below_later_of ?_ ?_ _) | (with_reducible refine Below.alloc ?_ ?_ _) | (with_reducible refine Below.setCell ?_ ?_ _) | (with_reducible refine Below.drew ?_) | (simp; done) | (simp; omega) | omega)))⟩
    first | (simp [results, Try.results78, go_sem]; done) | simp [results, Try.results78, go_sem, ↓IntWalk.iteOmega]
end Go.Proofs.Ythnfepfbkmafaaa
