import Derived.Test.YthnfepfbkmafaaaA4
namespace Go.Proofs.Ythnfepfbkmafaaa
set_option linter.unusedVariables false
open Go.RowKit

set_option maxHeartbeats 1000000 in
theorem pixel_any (t : Trk) (x y z : Int) (w : World) (o : t.Ok) (hx : placeB x y z = true) :
    Calls Try.prog 87 #[.agg #[.int .i64 t.sx, .int .i64 t.sy, .int .i64 t.sz, .int .i64 t.step, .int .i64 t.lines, .int .i64 t.near, .int .i64 t.bin, .int .i64 t.bins, .bool t.east], .agg #[.int .i64 x, .int .i64 y, .int .i64 z]] w
      fun e w' => e = .returned (.agg #[.int .i64 (lineP t y), .int .i64 (binP t (rootP (squareP t x z)))]) ∧ Below w.heap.size w w' := by
  have O := Lib.hid o
  obtain ⟨h_sx1, h_sx2, h_sy1, h_sy2, h_sz1, h_sz2, -, -, -, -, -, h_ne1, h_ne2, h_bi1, h_bi2, -, -⟩ := o
  rw [placeB_iff] at hx
  obtain ⟨⟨x1, x2⟩, ⟨y1, y2⟩, z1, z2⟩ := hx
  obtain ⟨s1, s2⟩ := squareP_bd t x z h_sx1 h_sx2 h_sz1 h_sz2 x1 x2 z1 z2
  unfold squareP at s1 s2 ⊢
  have r1 := rootP_spec _ s1 (by omega)
  have r2 := rootP_le _ s1 (by omega)
  obtain ⟨r0, -, -⟩ := r1
  go_enter Try.func87, Try.ntmps87
  go_wp2
  refine wp_region_calm_tail 17 (by kernel_rfl) (by kernel_rfl) ?_
  simp only [List.take_succ_cons, List.take_zero, List.drop_succ_cons, List.drop_zero]
  repeat (go_big_quiet_step (first | (go_at_call 84; exact calm_of (line_any t _ _ O.out (by omega) (by omega))) | (go_at_call 86; exact calm_of (square_any t _ _ _ _ (by omega) (by omega) (by omega) (by omega) (by omega) (by omega) (by omega) (by omega))) | (go_at_call 76; exact calm_same (root_any _ _ (by omega) (by omega))) | (go_at_call 129; exact calm_same (floor_any _ _ _ (by omega) (by omega) (by omega) (by omega) (by omega)))))
  refine wpQuiet_nil ?_
  rintro _ ⟨p1, rfl⟩
  go_wp2
  refine bodyPost_ret ?_ rfl ⟨rfl, (by (repeat' (first | with_reducible exact Below.refl _ _ | (with_reducible refine below_later_of ?_ ?_ _) | (with_reducible refine Below.alloc ?_ ?_ _) | (with_reducible refine Below.setCell ?_ ?_ _) | (with_reducible refine Below.drew ?_) | (simp; done) | (simp; omega) | omega)))⟩
  first | (simp [results, Try.results87, go_sem, binP]; done) | simp [results, Try.results87, go_sem, binP, ↓IntWalk.iteOmega]
end Go.Proofs.Ythnfepfbkmafaaa
