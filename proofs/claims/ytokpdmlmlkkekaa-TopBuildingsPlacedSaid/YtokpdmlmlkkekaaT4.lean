/- The tiles of a box: the program. -/
import Derived.Test.YtokpdmlmlkkekaaZT
namespace Go.Proofs.Ytokpdmlmlkkekaa
set_option linter.unusedVariables false
open Go.RowKit
@[go_sem] theorem idx_box0 (a b c d : Value) (w : World) : (Instr.index 31 (.agg #[a, b, c, d]) (.int .i64 0)).run Try.prog w = .ok (.agg #[a, b]) w := by kernel_rfl
@[go_sem] theorem idx_box1 (a b c d : Value) (w : World) : (Instr.index 31 (.agg #[a, b, c, d]) (.int .i64 1)).run Try.prog w = .ok (.agg #[c, d]) w := by kernel_rfl
set_option maxRecDepth 20000 in
set_option maxHeartbeats 1000000 in
theorem tiles_box (b : Bx) (s : Int) (w : World) {e0 : Int} (he : boxErrP b = e0) (hz : e0 ≠ 0) :
    Calls Try.prog 62 #[.agg #[.int .i64 b.x1, .int .i64 b.x2, .int .i64 b.y1, .int .i64 b.y2], .int .i64 s] w fun e w' => e = .returned (.tuple #[.slice none 0 0, .int .i64 e0]) ∧ Below w.heap.size w w' := by
  have HB := Lib.hid he
  clear he
  go_enter Try.func62, Try.ntmps62
  go_wp2_with (first | (go_at_call 132; (with_reducible refine (check_any b _ HB.out).mono ?_); rintro e w' ⟨rfl, hb⟩; obtain ⟨pp, rfl⟩ := later_of_below hb; clear hb))
  go_ret2
  exact ⟨rfl, (by (repeat' (first | with_reducible exact Below.refl _ _ | (with_reducible refine below_later_of ?_ ?_ _) | (with_reducible refine Below.alloc ?_ ?_ _) | (with_reducible refine Below.setCell ?_ ?_ _) | (with_reducible refine Below.drew ?_) | (simp; done) | (simp; omega) | omega)))⟩
set_option maxRecDepth 20000 in
set_option maxHeartbeats 1000000 in
theorem tiles_bad (b : Bx) (s : Int) (w : World) (hb : boxErrP b = 0) (he : tilesErrP b s ≠ 0) :
    Calls Try.prog 62 #[.agg #[.int .i64 b.x1, .int .i64 b.x2, .int .i64 b.y1, .int .i64 b.y2], .int .i64 s] w fun e w' => e = .returned (.tuple #[.slice none 0 0, .int .i64 (tilesErrP b s)]) ∧ Below w.heap.size w w' := by
  have HB := Lib.hid hb
  have o := boxErrP_ok hb
  clear hb
  cases h1 : inR 1 100000000 s
  · have HF : tilesErrP b s = 2 := by unfold tilesErrP; rw [h1]; rfl
    rw [HF]
    have H1 := Lib.hid h1
    clear h1 HF he o
    go_enter Try.func62, Try.ntmps62
    go_wp2_with (first | (go_at_call 132; (with_reducible refine (check_any b _ HB.out).mono ?_); rintro e w' ⟨rfl, hb⟩; obtain ⟨pp, rfl⟩ := later_of_below hb; clear hb) | (go_at_call 91; (with_reducible refine (within_c _ _ _ _ H1.out).mono ?_); rintro e w' ⟨rfl, rfl⟩))
    go_ret2
    exact ⟨rfl, (by (repeat' (first | with_reducible exact Below.refl _ _ | (with_reducible refine below_later_of ?_ ?_ _) | (with_reducible refine Below.alloc ?_ ?_ _) | (with_reducible refine Below.setCell ?_ ?_ _) | (with_reducible refine Below.drew ?_) | (simp; done) | (simp; omega) | omega)))⟩
  · have hn : 400 < nxP b s * nyP b s := by
      unfold tilesErrP at he
      rw [h1, if_pos rfl] at he
      split at he
      · assumption
      · contradiction
    have HF : tilesErrP b s = 8 := by unfold tilesErrP; rw [h1, if_pos rfl, if_pos hn]
    rw [HF]
    obtain ⟨s1, s2⟩ := inR_iff.1 h1
    have H1 := Lib.hid h1
    obtain ⟨x1a, x1b, x2a, x2b, y1a, y1b, y2a, y2b, xo, yo⟩ := o
    obtain ⟨l1, l2⟩ := div_bd x1a x1b s1
    obtain ⟨r1, r2⟩ := div_bd x2a x2b s1
    obtain ⟨t1, t2⟩ := div_bd y1a y1b s1
    obtain ⟨u1, u2⟩ := div_bd y2a y2b s1
    have m1 := div_mono xo s1
    have m2 := div_mono yo s1
    obtain ⟨q1, q2⟩ := mul_bd (a := nxP b s) (b := nyP b s) (A := 200000001) (B := 200000001) (by unfold nxP; omega) (by unfold nxP; omega) (by unfold nyP; omega) (by unfold nyP; omega)
    unfold nxP nyP at hn q1 q2
    clear h1 HF he
    go_enter Try.func62, Try.ntmps62
    go_wp2_with (first | (go_at_call 132; (with_reducible refine (check_any b _ HB.out).mono ?_); rintro e w' ⟨rfl, hb⟩; obtain ⟨pp, rfl⟩ := later_of_below hb; clear hb) | (go_at_call 91; (with_reducible refine (within_c _ _ _ _ H1.out).mono ?_); rintro e w' ⟨rfl, rfl⟩))
    refine wp_loop_rounds 3 ?_
    rw [rounds_succ]
    go_wp2
    refine wp_region_calm_tail 11 (by kernel_rfl) (by kernel_rfl) ?_
    simp only [List.take_succ_cons, List.take_zero, List.drop_succ_cons, List.drop_zero]
    repeat (go_big_quiet_step (first | (go_at_call 133; exact calm_same (floor_pos _ _ _ (by omega) (by omega) (by omega) (by omega)))))
    refine wpQuiet_nil ?_
    rintro _ ⟨p1, rfl⟩
    go_wp2
    rw [rounds_succ]
    go_wp2
    refine wp_region_calm_tail 11 (by kernel_rfl) (by kernel_rfl) ?_
    simp only [List.take_succ_cons, List.take_zero, List.drop_succ_cons, List.drop_zero]
    repeat (go_big_quiet_step (first | (go_at_call 133; exact calm_same (floor_pos _ _ _ (by omega) (by omega) (by omega) (by omega)))))
    refine wpQuiet_nil ?_
    rintro _ ⟨p2, rfl⟩
    go_wp2
    rw [rounds_succ]
    go_wp2
    go_ret2
    exact ⟨rfl, (by (repeat' (first | with_reducible exact Below.refl _ _ | (with_reducible refine below_later_of ?_ ?_ _) | (with_reducible refine Below.alloc ?_ ?_ _) | (with_reducible refine Below.setCell ?_ ?_ _) | (with_reducible refine Below.drew ?_) | (simp; done) | (simp; omega) | omega)))⟩

theorem wp_world2 {P : Program} {c : Code} {Q : Exit → Act → World → Prop} {a : Act} {w : World} (F : World → Prop) (hf : F w) (h : ∀ W, F W → Code.wp P c Q a W) : Code.wp P c Q a w := h w hf
/-- Block B holds four numbers. -/
def FourAt (W : World) (B : Nat) (a b c d : Int) : Prop := W.cell? ⟨B, 0, none⟩ = some (.int .i64 a) ∧ W.cell? ⟨B, 1, none⟩ = some (.int .i64 b) ∧ W.cell? ⟨B, 2, none⟩ = some (.int .i64 c) ∧ W.cell? ⟨B, 3, none⟩ = some (.int .i64 d)
theorem FourAt.below {w w' : World} {B C : Nat} {a b c d : Int} (h : FourAt w B a b c d) (hB : B < C) (hw : Below C w w') : FourAt w' B a b c d :=
  ⟨(hw.cell hB).trans h.1, (hw.cell hB).trans h.2.1, (hw.cell hB).trans h.2.2.1, (hw.cell hB).trans h.2.2.2⟩
set_option maxRecDepth 20000 in
set_option maxHeartbeats 4000000 in
theorem tiles_ok (b : Bx) (s : Int) (w : World) (hb : boxErrP b = 0) (he : tilesErrP b s = 0) (nx ny : Nat) (hnx : (nx : Int) = nxP b s) (hny : (ny : Int) = nyP b s) :
    Calls Try.prog 62 #[.agg #[.int .i64 b.x1, .int .i64 b.x2, .int .i64 b.y1, .int .i64 b.y2], .int .i64 s] w fun e w' => ∃ v, e = .returned (.tuple #[v, .int .i64 0]) ∧ w'.ownsRow w.heap.size 44 2 v (nx * ny) (tilesUpto (b.x1 / s) (b.y1 / s) ny (nx * ny)) ∧ Below w.heap.size w w' := by
  obtain ⟨i0, hi, hz0, hz1, hz2⟩ := info_parts info44
  have o := boxErrP_ok hb
  have HB := Lib.hid hb
  clear hb
  have h1 : inR 1 100000000 s = true := by
    unfold tilesErrP at he
    split at he
    · assumption
    · exact absurd he (by decide)
  have hn : nxP b s * nyP b s ≤ 400 := by
    unfold tilesErrP at he
    rw [h1, if_pos rfl] at he
    split at he
    · exact absurd he (by decide)
    · omega
  obtain ⟨s1, s2⟩ := inR_iff.1 h1
  have H1 := Lib.hid h1
  obtain ⟨x1a, x1b, x2a, x2b, y1a, y1b, y2a, y2b, xo, yo⟩ := o
  obtain ⟨l1, l2⟩ := div_bd x1a x1b s1
  obtain ⟨r1, r2⟩ := div_bd x2a x2b s1
  obtain ⟨t1, t2⟩ := div_bd y1a y1b s1
  obtain ⟨u1, u2⟩ := div_bd y2a y2b s1
  have m1 := div_mono xo s1
  have m2 := div_mono yo s1
  obtain ⟨q1, q2⟩ := mul_bd (a := nxP b s) (b := nyP b s) (A := 200000001) (B := 200000001) (by unfold nxP; omega) (by unfold nxP; omega) (by unfold nyP; omega) (by unfold nyP; omega)
  have hnn : nx * ny ≤ 400 := by
    refine Int.ofNat_le.1 ?_
    rw [Int.natCast_mul, hnx, hny]; exact hn
  have HNN := Lib.hid hnn
  clear hnn
  unfold nxP at hn q1 q2 hnx
  unfold nyP at hn q1 q2 hny
  clear h1 he
  go_enter Try.func62, Try.ntmps62
  go_wp2_with (first | (go_at_call 132; (with_reducible refine (check_any b _ HB.out).mono ?_); rintro e w' ⟨rfl, hb⟩; obtain ⟨pp, rfl⟩ := later_of_below hb; clear hb) | (go_at_call 91; (with_reducible refine (within_c _ _ _ _ H1.out).mono ?_); rintro e w' ⟨rfl, rfl⟩))
  refine wp_loop_rounds 3 ?_
  rw [rounds_succ]
  go_wp2
  refine wp_region_calm_tail 11 (by kernel_rfl) (by kernel_rfl) ?_
  simp only [List.take_succ_cons, List.take_zero, List.drop_succ_cons, List.drop_zero]
  repeat (go_big_quiet_step (first | (go_at_call 133; exact calm_same (floor_pos _ _ _ (by omega) (by omega) (by omega) (by omega)))))
  refine wpQuiet_nil ?_
  rintro _ ⟨p1, rfl⟩
  go_wp2
  rw [rounds_succ]
  go_wp2
  refine wp_region_calm_tail 11 (by kernel_rfl) (by kernel_rfl) ?_
  simp only [List.take_succ_cons, List.take_zero, List.drop_succ_cons, List.drop_zero]
  repeat (go_big_quiet_step (first | (go_at_call 133; exact calm_same (floor_pos _ _ _ (by omega) (by omega) (by omega) (by omega)))))
  refine wpQuiet_nil ?_
  rintro _ ⟨p2, rfl⟩
  go_wp2
  rw [rounds_succ]
  generalize hql : b.x1 / s = l at *
  generalize b.x2 / s = r at *
  generalize hqb : b.y1 / s = bo at *
  generalize b.y2 / s = tp at *
  have HQL := Lib.hid hql
  have HQB := Lib.hid hqb
  clear hql hqb
  have hd4 : decide (400 < (r - l + 1) * (tp - bo + 1)) = false := by simpa using hn
  go_wp2
  obtain ⟨B7, hB7⟩ : ∃ B7, B7 = w.heap.size + 1 + pp.os.size := ⟨_, rfl⟩
  refine wp_world2 (fun W => FourAt W B7 l r bo tp ∧ Below w.heap.size w W ∧ B7 < W.heap.size) ⟨?_, (by (repeat' (first | with_reducible exact Below.refl _ _ | (with_reducible refine below_later_of ?_ ?_ _) | (with_reducible refine Below.alloc ?_ ?_ _) | (with_reducible refine Below.setCell ?_ ?_ _) | (with_reducible refine Below.drew ?_) | (simp; done) | (simp; omega) | omega))), by subst hB7; simp; omega⟩ ?_
  · subst hB7
    refine ⟨?_, ?_, ?_, ?_⟩ <;> (first | (simp [go_sem]; done) | simp [go_sem, ↓IntWalk.iteOmega])
  rintro W7 ⟨hf, hb7, hlt7⟩
  rw [← hB7]
  have HF7 := Lib.hid hf
  have HX7 := Lib.hid hb7
  have hsz7 := hb7.size
  clear hf hb7 hB7
  go_loopw [10, 11] (fun v x wr => ∃ i : Nat, i ≤ nx ∧ x = .int .i64 (l + i) ∧ wr.ownsRow W7.heap.size 44 2 v (i * ny) (tilesUpto l bo ny (i * ny)) ∧ Below W7.heap.size W7 wr)
    (fun _ x _ => (r + 1 - intOf x).toNat)
  case atStart => exact ⟨0, Nat.zero_le _, by simp, by rw [Nat.zero_mul]; exact World.ownsRow_nil _ _ _ _, Below.refl _ _⟩
  case round =>
    obtain ⟨i, hi1, rfl, hown, hnx1⟩ := hrel
    obtain ⟨wo, hwo⟩ : ∃ wo : World, wo = wr := ⟨_, rfl⟩
    subst hwo
    have HX := Lib.hid hnx1
    have HO0 := Lib.hid hown
    obtain ⟨c0, c1, c2, c3⟩ := HF7.out.below hlt7 hnx1
    have hszo := hnx1.size
    clear hnx1 hown
    by_cases hlt : i < nx
    · have hdl : decide (l + (i : Int) ≤ r) = true := by simp; omega
      go_wp2
      clear c0 c1 c2 c3
      go_loopw [10, 12] (fun v y wr => ∃ j : Nat, j ≤ ny ∧ y = .int .i64 (bo + j) ∧ wr.ownsRow W7.heap.size 44 2 v (i * ny + j) (tilesUpto l bo ny (i * ny + j)) ∧ Below W7.heap.size W7 wr)
        (fun _ y _ => (tp + 1 - intOf y).toNat)
      case atStart => exact ⟨0, Nat.zero_le _, by simp, HO0.out, HX.out⟩
      case round =>
        obtain ⟨j, hj1, rfl, hown, hnx1⟩ := hrel
        obtain ⟨c0, c1, c2, c3⟩ := HF7.out.below hlt7 hnx1
        have HXI := Lib.hid hnx1
        have HO := Lib.hid hown
        have hszi := hnx1.size
        clear hnx1 hown
        by_cases hlj : j < ny
        · have HSN := Lib.hid (tilesUpto_at (l := l) (bo := bo) (ny := ny) (i := i) (j := j) hlj)
          have hbd : i * ny + j < 400 := by
            have : (i + 1) * ny ≤ nx * ny := Nat.mul_le_mul_right _ hlt
            have := HNN.out
            rw [Nat.add_mul, Nat.one_mul] at *
            omega
          go_wp2_with (at_builtin; refine wpList_append_own _ rfl _ _ 99 rfl W7.heap.size 44 i0 (.agg #[.int .i64 0, .int .i64 0]) 2 16 Try.underlying99 hi hz0 hz1 hz2 rfl (by decide) _ _ _ rfl (HO.out.alloc _) ⟨wr.heap.size, 0, none⟩ 1 1 [.int .i64 (l + i), .int .i64 (bo + j)] (by first | rfl | (simp; rfl)) rfl ?c1 ?c2 ?c3 ?c4 ?c5 ?_)
          case c1 => exact cells_new _ [_, _] _
          case c2 => intro u hu; simp at hu; rcases hu with rfl | rfl <;> rfl
          case c3 => unfold maxLen; omega
          case c4 => omega
          case c5 => simp; omega
          intro v' w1 hown' hgrow _
          have HX1 := Lib.hid (show Below W7.heap.size W7 w1 from (show Below W7.heap.size W7 _ from HXI.out.alloc (by omega) _).grown hgrow (by simp; omega) (fun g hg => (HO.out.lt g hg).1))
          have HO1 := Lib.hid hown'
          clear hown' hgrow
          go_wp2
          go_roundw
          case rel => exact ⟨j + 1, by omega, by go_num, by rw [← Nat.add_assoc, HSN.out]; exact HO1.out, HX1.out⟩
          case measure => simp [intOf]; omega
        · obtain rfl : j = ny := by omega
          go_wp2
          go_roundw
          case rel => exact ⟨i + 1, by omega, by go_num, by rw [Nat.add_mul, Nat.one_mul]; exact HO.out, HXI.out⟩
          case measure => simp [intOf]; omega
    · obtain rfl : i = nx := by omega
      go_wp2
      go_ret2
      first | exact ⟨_, rfl, ownsRow_mono HO0.out hsz7, HX7.out.trans (HX.out.mono hsz7)⟩ | (rw [HQL.out, HQB.out]; exact ⟨_, rfl, ownsRow_mono HO0.out hsz7, HX7.out.trans (HX.out.mono hsz7)⟩)
end Go.Proofs.Ytokpdmlmlkkekaa
