/- The arguments of the laws: a scene of a track and a relief. -/
import Derived.Test.YtokpdmlmlkkekaaZO
import Derived.Test.YtokpdmlmlkkekaaO4
namespace Go.Proofs.Ytokpdmlmlkkekaa
set_option linter.unusedVariables false
open Go.ChangeShapes Go.WideShapes Go.RowKit Go.Deep
theorem cells_scene : Try.prog.cellsOf 128 = 15 := by kernel_rfl
theorem leafs_scene : leafs Try.prog 8 128 = some [3, 3, 3, 3, 3, 3, 3, 3, 4, 3, 3, 3, 3, 3, 55] := by kernel_rfl
section
variable {H : Type} {enc : TypeId × Value → H} {w : World} {base : Nat} {spare : Nat → Bool} {held : Bool} {r : Reach} {b0 : Nat} {v : Value} {d : DataW H} {p : List MemPlace}
set_option maxRecDepth 100000 in
theorem open_scene (hv : Value.okWide Try.prog w r b0 128 v) (h : DataW.Trod enc Try.prog w base spare held 128 v d p) :
    ∃ (t : Trk) (r : Rel) (a : Option Addr) (cap : Nat), v = .agg #[.int .i64 t.sx, .int .i64 t.sy, .int .i64 t.sz, .int .i64 t.step, .int .i64 t.lines, .int .i64 t.near, .int .i64 t.bin, .int .i64 t.bins, .bool t.east, .int .i64 r.x, .int .i64 r.y, .int .i64 r.cell, .int .i64 r.rows, .int .i64 r.cols, .slice a r.ds.length cap] ∧ SrcAt w a r.ds ∧ (a = none → cap = 0) := by
  obtain ⟨cs, hn, rfl, ok⟩ := cells_of Try.underlying128 cells_scene leafs_scene hv h
  match cs, hn with
  | [c0, c1, c2, c3, c4, c5, c6, c7, c8, d0, d1, d2, d3, d4, d5], _ =>
    obtain ⟨a0, rfl, _⟩ := (ok 0 _ _ rfl rfl).int Try.underlying3
    obtain ⟨a1, rfl, _⟩ := (ok 1 _ _ rfl rfl).int Try.underlying3
    obtain ⟨a2, rfl, _⟩ := (ok 2 _ _ rfl rfl).int Try.underlying3
    obtain ⟨a3, rfl, _⟩ := (ok 3 _ _ rfl rfl).int Try.underlying3
    obtain ⟨a4, rfl, _⟩ := (ok 4 _ _ rfl rfl).int Try.underlying3
    obtain ⟨a5, rfl, _⟩ := (ok 5 _ _ rfl rfl).int Try.underlying3
    obtain ⟨a6, rfl, _⟩ := (ok 6 _ _ rfl rfl).int Try.underlying3
    obtain ⟨a7, rfl, _⟩ := (ok 7 _ _ rfl rfl).int Try.underlying3
    obtain ⟨a8, rfl⟩ := (ok 8 _ _ rfl rfl).bool Try.underlying4
    obtain ⟨e0, rfl, _⟩ := (ok 9 _ _ rfl rfl).int Try.underlying3
    obtain ⟨e1, rfl, _⟩ := (ok 10 _ _ rfl rfl).int Try.underlying3
    obtain ⟨e2, rfl, _⟩ := (ok 11 _ _ rfl rfl).int Try.underlying3
    obtain ⟨e3, rfl, _⟩ := (ok 12 _ _ rfl rfl).int Try.underlying3
    obtain ⟨e4, rfl, _⟩ := (ok 13 _ _ rfl rfl).int Try.underlying3
    obtain ⟨a, ds, cap, rfl, hs, hn⟩ := (ok 14 _ _ rfl rfl).floats
    exact ⟨⟨a0, a1, a2, a3, a4, a5, a6, a7, a8⟩, ⟨e0, e1, e2, e3, e4, ds⟩, a, cap, rfl, hs, hn⟩
end
end Go.Proofs.Ytokpdmlmlkkekaa
