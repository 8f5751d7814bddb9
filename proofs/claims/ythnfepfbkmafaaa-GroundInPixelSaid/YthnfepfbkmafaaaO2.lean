/- The arguments of the laws: tracks, pixels, places. -/
import Derived.Test.YthnfepfbkmafaaaO1
import Derived.Test.YthnfepfbkmafaaaP3
import Derived.Test.YthnfepfbkmafaaaRows
import Derived.KernelRfl
namespace Go.Proofs.Ythnfepfbkmafaaa
set_option linter.unusedVariables false
open Go.ChangeShapes Go.WideShapes Go.RowKit
theorem own : ownKnob Try.prog.godebug = none := by kernel_rfl
theorem laidOut : laidOutB Try.prog = true := by kernel_rfl
theorem cells_track : Try.prog.cellsOf 25 = 9 := by kernel_rfl
theorem leafs_track : leafs Try.prog 8 25 = some [3, 3, 3, 3, 3, 3, 3, 3, 4] := by kernel_rfl
theorem cells_pixel : Try.prog.cellsOf 29 = 4 := by kernel_rfl
theorem leafs_pixel : leafs Try.prog 8 29 = some [3, 3, 3, 3] := by kernel_rfl
theorem cells_place : Try.prog.cellsOf 23 = 3 := by kernel_rfl
theorem leafs_place : leafs Try.prog 8 23 = some [3, 3, 3] := by kernel_rfl
section
variable {H : Type} {enc : TypeId × Value → H} {w : World} {base : Nat} {spare : Nat → Bool} {held : Bool} {r : Reach} {b0 : Nat} {v : Value} {d : DataW H} {p : List MemPlace}
theorem cells_of {P : Program} {t : TypeId} {fs : Array Field} {n : Nat} {ls : List TypeId} (hu : P.underlying t = some (.struct fs)) (hn : P.cellsOf t = n) (hl : leafs P 8 t = some ls) (hv : Value.okWide P w r b0 t v) (h : DataW.Trod enc P w base spare held t v d p) :
    ∃ cs : List Value, cs.length = n ∧ v = .agg cs.toArray ∧ AllOk enc P w base spare held ls cs := by
  obtain ⟨cs, rfl, hs⟩ := okWide_struct hu hv
  obtain ⟨l⟩ := cs
  obtain ⟨fuel, hf⟩ := h
  exact ⟨l, by rw [← hn]; exact hs, rfl, leafs_ok 8 t ls fuel _ _ hl (by simpa [Value.cells] using hf)⟩
set_option maxRecDepth 100000 in
theorem open_track (hv : Value.okWide Try.prog w r b0 25 v) (h : DataW.Trod enc Try.prog w base spare held 25 v d p) :
    ∃ t : Trk, v = .agg #[.int .i64 t.sx, .int .i64 t.sy, .int .i64 t.sz, .int .i64 t.step, .int .i64 t.lines, .int .i64 t.near, .int .i64 t.bin, .int .i64 t.bins, .bool t.east] := by
  obtain ⟨cs, hn, rfl, ok⟩ := cells_of Try.underlying25 cells_track leafs_track hv h
  match cs, hn with
  | [c0, c1, c2, c3, c4, c5, c6, c7, c8], _ =>
    obtain ⟨a0, rfl, _⟩ := (ok 0 _ _ rfl rfl).int Try.underlying3
    obtain ⟨a1, rfl, _⟩ := (ok 1 _ _ rfl rfl).int Try.underlying3
    obtain ⟨a2, rfl, _⟩ := (ok 2 _ _ rfl rfl).int Try.underlying3
    obtain ⟨a3, rfl, _⟩ := (ok 3 _ _ rfl rfl).int Try.underlying3
    obtain ⟨a4, rfl, _⟩ := (ok 4 _ _ rfl rfl).int Try.underlying3
    obtain ⟨a5, rfl, _⟩ := (ok 5 _ _ rfl rfl).int Try.underlying3
    obtain ⟨a6, rfl, _⟩ := (ok 6 _ _ rfl rfl).int Try.underlying3
    obtain ⟨a7, rfl, _⟩ := (ok 7 _ _ rfl rfl).int Try.underlying3
    obtain ⟨a8, rfl⟩ := (ok 8 _ _ rfl rfl).bool Try.underlying4
    exact ⟨⟨a0, a1, a2, a3, a4, a5, a6, a7, a8⟩, rfl⟩
set_option maxRecDepth 100000 in
theorem open_pixel (hv : Value.okWide Try.prog w r b0 29 v) (h : DataW.Trod enc Try.prog w base spare held 29 v d p) :
    ∃ q : Pix, v = .agg #[.int .i64 q.line, .int .i64 q.bin, .int .i64 q.lo, .int .i64 q.hi] := by
  obtain ⟨cs, hn, rfl, ok⟩ := cells_of Try.underlying29 cells_pixel leafs_pixel hv h
  match cs, hn with
  | [c0, c1, c2, c3], _ =>
    obtain ⟨a0, rfl, _⟩ := (ok 0 _ _ rfl rfl).int Try.underlying3
    obtain ⟨a1, rfl, _⟩ := (ok 1 _ _ rfl rfl).int Try.underlying3
    obtain ⟨a2, rfl, _⟩ := (ok 2 _ _ rfl rfl).int Try.underlying3
    obtain ⟨a3, rfl, _⟩ := (ok 3 _ _ rfl rfl).int Try.underlying3
    exact ⟨⟨a0, a1, a2, a3⟩, rfl⟩
set_option maxRecDepth 100000 in
theorem open_place (hv : Value.okWide Try.prog w r b0 23 v) (h : DataW.Trod enc Try.prog w base spare held 23 v d p) :
    ∃ x y z : Int, v = .agg #[.int .i64 x, .int .i64 y, .int .i64 z] ∧ (Lit.int .i64 x).wf = true ∧ (Lit.int .i64 y).wf = true ∧ (Lit.int .i64 z).wf = true := by
  obtain ⟨cs, hn, rfl, ok⟩ := cells_of Try.underlying23 cells_place leafs_place hv h
  match cs, hn with
  | [c0, c1, c2], _ =>
    obtain ⟨a0, rfl, w0⟩ := (ok 0 _ _ rfl rfl).int Try.underlying3
    obtain ⟨a1, rfl, w1⟩ := (ok 1 _ _ rfl rfl).int Try.underlying3
    obtain ⟨a2, rfl, w2⟩ := (ok 2 _ _ rfl rfl).int Try.underlying3
    exact ⟨a0, a1, a2, rfl, w0, w1, w2⟩
end
end Go.Proofs.Ythnfepfbkmafaaa
