import Derived.Test.YthnfepfbkmafaaaR4
namespace Go.Proofs.Ythnfepfbkmafaaa
set_option linter.unusedVariables false
open Go.RowKit
theorem rootUpP_pos {n : Int} (h : 1 ≤ n) (h1 : n < 4611686018427387904) : 1 ≤ rootUpP n := by
  have a := rootP_spec n (by omega) h1
  unfold rootUpP
  split
  · omega
  · rcases Int.lt_or_le 0 (rootP n) with h2 | h2
    · omega
    · have : rootP n = 0 := by omega
      rw [this] at a; omega
theorem rootUpP_one : rootUpP 1 = 1 := by
  have h : rootP 1 = 1 := rootP_unique 1 1 (by omega) (by omega) (by omega) (by omega)
  unfold rootUpP; rw [h]; rfl
theorem rootP_zero : rootP 0 = 0 := rootP_unique 0 0 (by omega) (by omega) (by omega) (by omega)
set_option maxHeartbeats 8000000 in
theorem rBoxOf (t : Trk) (q : Pix) (w : World) (h : checkTrackP t = 0) (hq : checkPixelP t q = 0) :
    Calls Try.prog 20 #[.agg #[.int .i64 t.sx, .int .i64 t.sy, .int .i64 t.sz, .int .i64 t.step, .int .i64 t.lines, .int .i64 t.near, .int .i64 t.bin, .int .i64 t.bins, .bool t.east], .agg #[.int .i64 q.line, .int .i64 q.bin, .int .i64 q.lo, .int .i64 q.hi]] w fun e w' => e = .returned (.tuple #[.agg #[.int .i64 (boxOfP t q).x1, .int .i64 (boxOfP t q).x2, .int .i64 (boxOfP t q).y1, .int .i64 (boxOfP t q).y2], .int .i64 (boxOfP t q).err]) ∧ Below w.heap.size w w' := by
  have o := checkTrackP_ok h
  have p := checkPixelP_ok hq
  obtain ⟨b1, b2, b3, b4, b5, b6, b7, b8, b9, b10⟩ := box_bd o p
  obtain ⟨m1, m2⟩ := rows_bd o p.l1 (show q.line ≤ 10000 by have := p.l2; have := o.li2; omega)
  obtain ⟨k1, k2⟩ := rows_bd (n := q.line + 1) o (by have := p.l1; omega) (by have := p.l2; have := o.li2; omega)
  rw [Int.mul_comm] at m1 m2 k1 k2
  obtain ⟨h_sx1, h_sx2, h_sy1, h_sy2, h_sz1, h_sz2, -, -, -, l1, l2, h_ne1, h_ne2, h_bi1, h_bi2, n1, n2⟩ := o
  obtain ⟨q1, q2, q3, q4, q5, q6, q7, q8, q9, q10⟩ := p
  have e1 : leastP t q = (t.near + t.bin * q.bin) * (t.near + t.bin * q.bin) - depthP t q.lo * depthP t q.lo := rfl
  have e2 : mostP t q = (t.near + t.bin * q.bin + t.bin) * (t.near + t.bin * q.bin + t.bin) - 1 - depthP t q.hi * depthP t q.hi := rfl
  by_cases hl : 0 < leastP t q
  · skip
    obtain ⟨u, hu⟩ : ∃ u, rootUpP (leastP t q) = u := ⟨_, rfl⟩
    have r4 := rootUpP_bd (leastP t q) (by omega) (by omega)
    have r5 := rootUpP_pos (show 1 ≤ leastP t q by omega) (by omega)
    have hU : rootUpP (max 1 (leastP t q)) = u := by rw [show max 1 (leastP t q) = leastP t q by omega, hu]
    have HU : ∀ w, Calls Try.prog 81 #[.int .i64 ((t.near + t.bin * q.bin) * (t.near + t.bin * q.bin) - depthP t q.lo * depthP t q.lo)] w fun e w' => e = .returned (.int .i64 u) ∧ w = w' := by
      intro w; rw [← hu]; exact rRootUp _ _ (by omega) (by omega)
    rw [hu] at r4 r5
    obtain ⟨r40, r41⟩ := r4
    have hmx : max 1 u = u := by omega
    by_cases hm : 0 < mostP t q
    · have r2 := rootP_spec (mostP t q) (by omega) (by omega)
      have r3 := rootP_le (mostP t q) (by omega) (by omega)
      obtain ⟨v, hv⟩ : ∃ v, rootP (mostP t q) = v := ⟨_, rfl⟩
      have HV : ∀ w, Calls Try.prog 82 #[.int .i64 ((t.near + t.bin * q.bin + t.bin) * (t.near + t.bin * q.bin + t.bin) - 1 - depthP t q.hi * depthP t q.hi)] w fun e w' => e = .returned (.int .i64 v) ∧ w = w' := by
        intro w; rw [← hv]; exact bRoot _ _ (by omega) (by omega)
      rw [hv] at r2 r3
      obtain ⟨r20, -, -⟩ := r2
      have hm' : ¬ mostP t q < 0 := by omega
      by_cases hx : v < u
      · have HF : boxOfP t q = ⟨0, 0, 0, 0, 12⟩ := by unfold boxOfP; rw [if_pos h, if_pos hq, if_neg hm', hU, hv, if_pos hx]
        rw [HF]
        rw [e2] at hm
        rw [e1] at hl
        clear h hq e1 e2 hU hv hu hm' HF
        go_enter Try.func20, Try.ntmps20
        go_wp2
        refine wp_region_calm (by kernel_rfl) (by kernel_rfl) ?_
        repeat (go_big_quiet_step (first | (go_at_call 80; exact calm_of (rDepth t _ _ (by omega) (by omega) (by omega) (by omega)))))
        refine wpQuiet_nil ?_
        rintro _ ⟨p1, rfl⟩
        go_wp2_with (first | (go_at_call 81; (with_reducible refine (HU _).mono ?_); rintro e w' ⟨rfl, rfl⟩) | (go_at_call 82; (with_reducible refine (HV _).mono ?_); rintro e w' ⟨rfl, rfl⟩))
        refine bodyPost_ret ?_ rfl ⟨rfl, (by (repeat' (first | with_reducible exact Below.refl _ _ | (with_reducible refine below_later_of ?_ ?_ _) | (with_reducible refine Below.alloc ?_ ?_ _) | (with_reducible refine Below.setCell ?_ ?_ _) | (with_reducible refine Below.drew ?_) | (simp; done) | (simp; omega) | omega)))⟩
        first | (simp [results, Try.results20, go_sem]; done) | simp [results, Try.results20, go_sem, ↓IntWalk.iteOmega]
      · have HF : boxOfP t q = ⟨(columnsP t u v).1, (columnsP t u v).2, (rowsP t q.line).1, (rowsP t q.line).2, 0⟩ := by
          unfold boxOfP; rw [if_pos h, if_pos hq, if_neg hm', hU, hv, if_neg hx]
        rw [HF]
        rw [e2] at hm
        rw [e1] at hl
        clear h hq e1 e2 hU hv hu hm' HF
        rcases (show t.east = false ∨ t.east = true by cases t.east <;> simp) with he | he
        · have HC : columnsP t u v = (t.sx - v, t.sx - u) := by unfold columnsP; rw [he]; rfl
          rw [HC]
          clear HC
          by_cases hs : t.step < 0
          · have HR : rowsP t q.line = (t.sy + t.step * (q.line + 1) + 1, t.sy + t.step * q.line) := by unfold rowsP; rw [if_pos hs, Int.mul_comm q.line, Int.mul_comm (q.line + 1)]
            rw [HR]
            clear HR
            have HE := Lib.hid he
            clear he
            go_enter Try.func20, Try.ntmps20
            go_wp2
            refine wp_region_calm (by kernel_rfl) (by kernel_rfl) ?_
            repeat (go_big_quiet_step (first | (go_at_call 80; exact calm_of (rDepth t _ _ (by omega) (by omega) (by omega) (by omega)))))
            refine wpQuiet_nil ?_
            rintro _ ⟨p1, rfl⟩
            have he := HE.out
            go_wp2_with (first | (go_at_call 81; (with_reducible refine (HU _).mono ?_); rintro e w' ⟨rfl, rfl⟩) | (go_at_call 82; (with_reducible refine (HV _).mono ?_); rintro e w' ⟨rfl, rfl⟩))
            refine bodyPost_ret ?_ rfl ⟨rfl, (by (repeat' (first | with_reducible exact Below.refl _ _ | (with_reducible refine below_later_of ?_ ?_ _) | (with_reducible refine Below.alloc ?_ ?_ _) | (with_reducible refine Below.setCell ?_ ?_ _) | (with_reducible refine Below.drew ?_) | (simp; done) | (simp; omega) | omega)))⟩
            first | (simp [results, Try.results20, go_sem]; done) | simp [results, Try.results20, go_sem, ↓IntWalk.iteOmega]
          · have HR : rowsP t q.line = (t.sy + t.step * q.line, t.sy + t.step * (q.line + 1) - 1) := by unfold rowsP; rw [if_neg hs, Int.mul_comm q.line, Int.mul_comm (q.line + 1)]
            rw [HR]
            clear HR
            have HE := Lib.hid he
            clear he
            go_enter Try.func20, Try.ntmps20
            go_wp2
            refine wp_region_calm (by kernel_rfl) (by kernel_rfl) ?_
            repeat (go_big_quiet_step (first | (go_at_call 80; exact calm_of (rDepth t _ _ (by omega) (by omega) (by omega) (by omega)))))
            refine wpQuiet_nil ?_
            rintro _ ⟨p1, rfl⟩
            have he := HE.out
            go_wp2_with (first | (go_at_call 81; (with_reducible refine (HU _).mono ?_); rintro e w' ⟨rfl, rfl⟩) | (go_at_call 82; (with_reducible refine (HV _).mono ?_); rintro e w' ⟨rfl, rfl⟩))
            refine bodyPost_ret ?_ rfl ⟨rfl, (by (repeat' (first | with_reducible exact Below.refl _ _ | (with_reducible refine below_later_of ?_ ?_ _) | (with_reducible refine Below.alloc ?_ ?_ _) | (with_reducible refine Below.setCell ?_ ?_ _) | (with_reducible refine Below.drew ?_) | (simp; done) | (simp; omega) | omega)))⟩
            first | (simp [results, Try.results20, go_sem]; done) | simp [results, Try.results20, go_sem, ↓IntWalk.iteOmega]
        · have HC : columnsP t u v = (t.sx + u, t.sx + v) := by unfold columnsP; rw [he]; rfl
          rw [HC]
          clear HC
          by_cases hs : t.step < 0
          · have HR : rowsP t q.line = (t.sy + t.step * (q.line + 1) + 1, t.sy + t.step * q.line) := by unfold rowsP; rw [if_pos hs, Int.mul_comm q.line, Int.mul_comm (q.line + 1)]
            rw [HR]
            clear HR
            have HE := Lib.hid he
            clear he
            go_enter Try.func20, Try.ntmps20
            go_wp2
            refine wp_region_calm (by kernel_rfl) (by kernel_rfl) ?_
            repeat (go_big_quiet_step (first | (go_at_call 80; exact calm_of (rDepth t _ _ (by omega) (by omega) (by omega) (by omega)))))
            refine wpQuiet_nil ?_
            rintro _ ⟨p1, rfl⟩
            have he := HE.out
            go_wp2_with (first | (go_at_call 81; (with_reducible refine (HU _).mono ?_); rintro e w' ⟨rfl, rfl⟩) | (go_at_call 82; (with_reducible refine (HV _).mono ?_); rintro e w' ⟨rfl, rfl⟩))
            refine bodyPost_ret ?_ rfl ⟨rfl, (by (repeat' (first | with_reducible exact Below.refl _ _ | (with_reducible refine below_later_of ?_ ?_ _) | (with_reducible refine Below.alloc ?_ ?_ _) | (with_reducible refine Below.setCell ?_ ?_ _) | (with_reducible refine Below.drew ?_) | (simp; done) | (simp; omega) | omega)))⟩
            first | (simp [results, Try.results20, go_sem]; done) | simp [results, Try.results20, go_sem, ↓IntWalk.iteOmega]
          · have HR : rowsP t q.line = (t.sy + t.step * q.line, t.sy + t.step * (q.line + 1) - 1) := by unfold rowsP; rw [if_neg hs, Int.mul_comm q.line, Int.mul_comm (q.line + 1)]
            rw [HR]
            clear HR
            have HE := Lib.hid he
            clear he
            go_enter Try.func20, Try.ntmps20
            go_wp2
            refine wp_region_calm (by kernel_rfl) (by kernel_rfl) ?_
            repeat (go_big_quiet_step (first | (go_at_call 80; exact calm_of (rDepth t _ _ (by omega) (by omega) (by omega) (by omega)))))
            refine wpQuiet_nil ?_
            rintro _ ⟨p1, rfl⟩
            have he := HE.out
            go_wp2_with (first | (go_at_call 81; (with_reducible refine (HU _).mono ?_); rintro e w' ⟨rfl, rfl⟩) | (go_at_call 82; (with_reducible refine (HV _).mono ?_); rintro e w' ⟨rfl, rfl⟩))
            refine bodyPost_ret ?_ rfl ⟨rfl, (by (repeat' (first | with_reducible exact Below.refl _ _ | (with_reducible refine below_later_of ?_ ?_ _) | (with_reducible refine Below.alloc ?_ ?_ _) | (with_reducible refine Below.setCell ?_ ?_ _) | (with_reducible refine Below.drew ?_) | (simp; done) | (simp; omega) | omega)))⟩
            first | (simp [results, Try.results20, go_sem]; done) | simp [results, Try.results20, go_sem, ↓IntWalk.iteOmega]
    · have hx : rootP (mostP t q) < rootUpP (max 1 (leastP t q)) ∨ mostP t q < 0 := by
        rcases Int.lt_or_le (mostP t q) 0 with h0 | h0
        · exact .inr h0
        · rw [show mostP t q = 0 by omega, rootP_zero, hU]; exact .inl (by omega)
      have HF : boxOfP t q = ⟨0, 0, 0, 0, 12⟩ := by
        unfold boxOfP; rw [if_pos h, if_pos hq]
        rcases hx with h0 | h0
        · by_cases h1 : mostP t q < 0
          · rw [if_pos h1]
          · rw [if_neg h1, if_pos h0]
        · rw [if_pos h0]
      rw [HF]
      rw [e2] at hm
      rw [e1] at hl
      clear h hq e1 e2 hU hx HF hu
      go_enter Try.func20, Try.ntmps20
      go_wp2
      refine wp_region_calm (by kernel_rfl) (by kernel_rfl) ?_
      repeat (go_big_quiet_step (first | (go_at_call 80; exact calm_of (rDepth t _ _ (by omega) (by omega) (by omega) (by omega)))))
      refine wpQuiet_nil ?_
      rintro _ ⟨p1, rfl⟩
      go_wp2_with (first | (go_at_call 81; (with_reducible refine (HU _).mono ?_); rintro e w' ⟨rfl, rfl⟩) | (go_at_call 82; (with_reducible refine (HV _).mono ?_); rintro e w' ⟨rfl, rfl⟩))
      refine bodyPost_ret ?_ rfl ⟨rfl, (by (repeat' (first | with_reducible exact Below.refl _ _ | (with_reducible refine below_later_of ?_ ?_ _) | (with_reducible refine Below.alloc ?_ ?_ _) | (with_reducible refine Below.setCell ?_ ?_ _) | (with_reducible refine Below.drew ?_) | (simp; done) | (simp; omega) | omega)))⟩
      first | (simp [results, Try.results20, go_sem]; done) | simp [results, Try.results20, go_sem, ↓IntWalk.iteOmega]
  · skip
    have hU : rootUpP (max 1 (leastP t q)) = 1 := by rw [show max 1 (leastP t q) = 1 by omega]; exact rootUpP_one
    by_cases hm : 0 < mostP t q
    · have r2 := rootP_spec (mostP t q) (by omega) (by omega)
      have r3 := rootP_le (mostP t q) (by omega) (by omega)
      obtain ⟨v, hv⟩ : ∃ v, rootP (mostP t q) = v := ⟨_, rfl⟩
      have HV : ∀ w, Calls Try.prog 82 #[.int .i64 ((t.near + t.bin * q.bin + t.bin) * (t.near + t.bin * q.bin + t.bin) - 1 - depthP t q.hi * depthP t q.hi)] w fun e w' => e = .returned (.int .i64 v) ∧ w = w' := by
        intro w; rw [← hv]; exact bRoot _ _ (by omega) (by omega)
      rw [hv] at r2 r3
      obtain ⟨r20, -, -⟩ := r2
      have hm' : ¬ mostP t q < 0 := by omega
      by_cases hx : v < 1
      · have HF : boxOfP t q = ⟨0, 0, 0, 0, 12⟩ := by unfold boxOfP; rw [if_pos h, if_pos hq, if_neg hm', hU, hv, if_pos hx]
        rw [HF]
        rw [e2] at hm
        rw [e1] at hl
        clear h hq e1 e2 hU hv hm' HF
        go_enter Try.func20, Try.ntmps20
        go_wp2
        refine wp_region_calm (by kernel_rfl) (by kernel_rfl) ?_
        repeat (go_big_quiet_step (first | (go_at_call 80; exact calm_of (rDepth t _ _ (by omega) (by omega) (by omega) (by omega)))))
        refine wpQuiet_nil ?_
        rintro _ ⟨p1, rfl⟩
        go_wp2_with (first | (go_at_call 81; (with_reducible refine (HU _).mono ?_); rintro e w' ⟨rfl, rfl⟩) | (go_at_call 82; (with_reducible refine (HV _).mono ?_); rintro e w' ⟨rfl, rfl⟩))
        refine bodyPost_ret ?_ rfl ⟨rfl, (by (repeat' (first | with_reducible exact Below.refl _ _ | (with_reducible refine below_later_of ?_ ?_ _) | (with_reducible refine Below.alloc ?_ ?_ _) | (with_reducible refine Below.setCell ?_ ?_ _) | (with_reducible refine Below.drew ?_) | (simp; done) | (simp; omega) | omega)))⟩
        first | (simp [results, Try.results20, go_sem]; done) | simp [results, Try.results20, go_sem, ↓IntWalk.iteOmega]
      · have HF : boxOfP t q = ⟨(columnsP t 1 v).1, (columnsP t 1 v).2, (rowsP t q.line).1, (rowsP t q.line).2, 0⟩ := by
          unfold boxOfP; rw [if_pos h, if_pos hq, if_neg hm', hU, hv, if_neg hx]
        rw [HF]
        rw [e2] at hm
        rw [e1] at hl
        clear h hq e1 e2 hU hv hm' HF
        rcases (show t.east = false ∨ t.east = true by cases t.east <;> simp) with he | he
        · have HC : columnsP t 1 v = (t.sx - v, t.sx - 1) := by unfold columnsP; rw [he]; rfl
          rw [HC]
          clear HC
          by_cases hs : t.step < 0
          · have HR : rowsP t q.line = (t.sy + t.step * (q.line + 1) + 1, t.sy + t.step * q.line) := by unfold rowsP; rw [if_pos hs, Int.mul_comm q.line, Int.mul_comm (q.line + 1)]
            rw [HR]
            clear HR
            have HE := Lib.hid he
            clear he
            go_enter Try.func20, Try.ntmps20
            go_wp2
            refine wp_region_calm (by kernel_rfl) (by kernel_rfl) ?_
            repeat (go_big_quiet_step (first | (go_at_call 80; exact calm_of (rDepth t _ _ (by omega) (by omega) (by omega) (by omega)))))
            refine wpQuiet_nil ?_
            rintro _ ⟨p1, rfl⟩
            have he := HE.out
            go_wp2_with (first | (go_at_call 81; (with_reducible refine (HU _).mono ?_); rintro e w' ⟨rfl, rfl⟩) | (go_at_call 82; (with_reducible refine (HV _).mono ?_); rintro e w' ⟨rfl, rfl⟩))
            refine bodyPost_ret ?_ rfl ⟨rfl, (by (repeat' (first | with_reducible exact Below.refl _ _ | (with_reducible refine below_later_of ?_ ?_ _) | (with_reducible refine Below.alloc ?_ ?_ _) | (with_reducible refine Below.setCell ?_ ?_ _) | (with_reducible refine Below.drew ?_) | (simp; done) | (simp; omega) | omega)))⟩
            first | (simp [results, Try.results20, go_sem]; done) | simp [results, Try.results20, go_sem, ↓IntWalk.iteOmega]
          · have HR : rowsP t q.line = (t.sy + t.step * q.line, t.sy + t.step * (q.line + 1) - 1) := by unfold rowsP; rw [if_neg hs, Int.mul_comm q.line, Int.mul_comm (q.line + 1)]
            rw [HR]
            clear HR
            have HE := Lib.hid he
            clear he
            go_enter Try.func20, Try.ntmps20
            go_wp2
            refine wp_region_calm (by kernel_rfl) (by kernel_rfl) ?_
            repeat (go_big_quiet_step (first | (go_at_call 80; exact calm_of (rDepth t _ _ (by omega) (by omega) (by omega) (by omega)))))
            refine wpQuiet_nil ?_
            rintro _ ⟨p1, rfl⟩
            have he := HE.out
            go_wp2_with (first | (go_at_call 81; (with_reducible refine (HU _).mono ?_); rintro e w' ⟨rfl, rfl⟩) | (go_at_call 82; (with_reducible refine (HV _).mono ?_); rintro e w' ⟨rfl, rfl⟩))
            refine bodyPost_ret ?_ rfl ⟨rfl, (by (repeat' (first | with_reducible exact Below.refl _ _ | (with_reducible refine below_later_of ?_ ?_ _) | (with_reducible refine Below.alloc ?_ ?_ _) | (with_reducible refine Below.setCell ?_ ?_ _) | (with_reducible refine Below.drew ?_) | (simp; done) | (simp; omega) | omega)))⟩
            first | (simp [results, Try.results20, go_sem]; done) | simp [results, Try.results20, go_sem, ↓IntWalk.iteOmega]
        · have HC : columnsP t 1 v = (t.sx + 1, t.sx + v) := by unfold columnsP; rw [he]; rfl
          rw [HC]
          clear HC
          by_cases hs : t.step < 0
          · have HR : rowsP t q.line = (t.sy + t.step * (q.line + 1) + 1, t.sy + t.step * q.line) := by unfold rowsP; rw [if_pos hs, Int.mul_comm q.line, Int.mul_comm (q.line + 1)]
            rw [HR]
            clear HR
            have HE := Lib.hid he
            clear he
            go_enter Try.func20, Try.ntmps20
            go_wp2
            refine wp_region_calm (by kernel_rfl) (by kernel_rfl) ?_
            repeat (go_big_quiet_step (first | (go_at_call 80; exact calm_of (rDepth t _ _ (by omega) (by omega) (by omega) (by omega)))))
            refine wpQuiet_nil ?_
            rintro _ ⟨p1, rfl⟩
            have he := HE.out
            go_wp2_with (first | (go_at_call 81; (with_reducible refine (HU _).mono ?_); rintro e w' ⟨rfl, rfl⟩) | (go_at_call 82; (with_reducible refine (HV _).mono ?_); rintro e w' ⟨rfl, rfl⟩))
            refine bodyPost_ret ?_ rfl ⟨rfl, (by (repeat' (first | with_reducible exact Below.refl _ _ | (with_reducible refine below_later_of ?_ ?_ _) | (with_reducible refine Below.alloc ?_ ?_ _) | (with_reducible refine Below.setCell ?_ ?_ _) | (with_reducible refine Below.drew ?_) | (simp; done) | (simp; omega) | omega)))⟩
            first | (simp [results, Try.results20, go_sem]; done) | simp [results, Try.results20, go_sem, ↓IntWalk.iteOmega]
          · have HR : rowsP t q.line = (t.sy + t.step * q.line, t.sy + t.step * (q.line + 1) - 1) := by unfold rowsP; rw [if_neg hs, Int.mul_comm q.line, Int.mul_comm (q.line + 1)]
            rw [HR]
            clear HR
            have HE := Lib.hid he
            clear he
            go_enter Try.func20, Try.ntmps20
            go_wp2
            refine wp_region_calm (by kernel_rfl) (by kernel_rfl) ?_
            repeat (go_big_quiet_step (first | (go_at_call 80; exact calm_of (rDepth t _ _ (by omega) (by omega) (by omega) (by omega)))))
            refine wpQuiet_nil ?_
            rintro _ ⟨p1, rfl⟩
            have he := HE.out
            go_wp2_with (first | (go_at_call 81; (with_reducible refine (HU _).mono ?_); rintro e w' ⟨rfl, rfl⟩) | (go_at_call 82; (with_reducible refine (HV _).mono ?_); rintro e w' ⟨rfl, rfl⟩))
            refine bodyPost_ret ?_ rfl ⟨rfl, (by (repeat' (first | with_reducible exact Below.refl _ _ | (with_reducible refine below_later_of ?_ ?_ _) | (with_reducible refine Below.alloc ?_ ?_ _) | (with_reducible refine Below.setCell ?_ ?_ _) | (with_reducible refine Below.drew ?_) | (simp; done) | (simp; omega) | omega)))⟩
            first | (simp [results, Try.results20, go_sem]; done) | simp [results, Try.results20, go_sem, ↓IntWalk.iteOmega]
    · have hx : rootP (mostP t q) < rootUpP (max 1 (leastP t q)) ∨ mostP t q < 0 := by
        rcases Int.lt_or_le (mostP t q) 0 with h0 | h0
        · exact .inr h0
        · rw [show mostP t q = 0 by omega, rootP_zero, hU]; exact .inl (by omega)
      have HF : boxOfP t q = ⟨0, 0, 0, 0, 12⟩ := by
        unfold boxOfP; rw [if_pos h, if_pos hq]
        rcases hx with h0 | h0
        · by_cases h1 : mostP t q < 0
          · rw [if_pos h1]
          · rw [if_neg h1, if_pos h0]
        · rw [if_pos h0]
      rw [HF]
      rw [e2] at hm
      rw [e1] at hl
      clear h hq e1 e2 hU hx HF
      go_enter Try.func20, Try.ntmps20
      go_wp2
      refine wp_region_calm (by kernel_rfl) (by kernel_rfl) ?_
      repeat (go_big_quiet_step (first | (go_at_call 80; exact calm_of (rDepth t _ _ (by omega) (by omega) (by omega) (by omega)))))
      refine wpQuiet_nil ?_
      rintro _ ⟨p1, rfl⟩
      go_wp2_with (first | (go_at_call 81; (with_reducible refine (HU _).mono ?_); rintro e w' ⟨rfl, rfl⟩) | (go_at_call 82; (with_reducible refine (HV _).mono ?_); rintro e w' ⟨rfl, rfl⟩))
      refine bodyPost_ret ?_ rfl ⟨rfl, (by (repeat' (first | with_reducible exact Below.refl _ _ | (with_reducible refine below_later_of ?_ ?_ _) | (with_reducible refine Below.alloc ?_ ?_ _) | (with_reducible refine Below.setCell ?_ ?_ _) | (with_reducible refine Below.drew ?_) | (simp; done) | (simp; omega) | omega)))⟩
      first | (simp [results, Try.results20, go_sem]; done) | simp [results, Try.results20, go_sem, ↓IntWalk.iteOmega]
end Go.Proofs.Ythnfepfbkmafaaa
