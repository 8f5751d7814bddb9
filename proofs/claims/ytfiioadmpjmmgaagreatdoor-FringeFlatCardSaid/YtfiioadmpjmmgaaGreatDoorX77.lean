/- Chapter 4: the laws' arguments: a model. -/
import Derived.Test.YtfiioadmpjmmgaaGreatDoorX5
import Derived.Test.YtfiioadmpjmmgaaGreatDoorX72
namespace Go.Proofs.YtfiioadmpjmmgaaGreatDoor
set_option linter.unusedVariables false
set_option linter.unusedSimpArgs false
open Go.ChangeShapes Go.WideShapes Go.RowKit Ntt
theorem cells_mdl : Tryz.prog.cellsOf 77 = 4 := by kernel_rfl
theorem leafs_mdl : leafs Tryz.prog 8 77 = some [3, 3, 3, 3] := by kernel_rfl
set_option maxRecDepth 100000 in
theorem open_mdl {H : Type} {enc : TypeId × Value → H} {w : World} {base : Nat} {spare : Nat → Bool} {held : Bool} {r : Reach} {b0 : Nat} {v : Value} {d : DataW H} {p : List MemPlace} (hv : Value.okWide Tryz.prog w r b0 77 v) (h : DataW.Trod enc Tryz.prog w base spare held 77 v d p) :
    ∃ x : Mdl, v = .agg #[.int .i64 x.a, .int .i64 x.b, .int .i64 x.c, .int .i64 x.d] := by
  obtain ⟨cs, hn, rfl, ok⟩ := cells_of Tryz.underlying77 cells_mdl leafs_mdl hv h
  match cs, hn with
  | [c0, c1, c2, c3], _ =>
    obtain ⟨a0, rfl, _⟩ := (ok 0 _ _ rfl rfl).int Tryz.underlying3
    obtain ⟨a1, rfl, _⟩ := (ok 1 _ _ rfl rfl).int Tryz.underlying3
    obtain ⟨a2, rfl, _⟩ := (ok 2 _ _ rfl rfl).int Tryz.underlying3
    obtain ⟨a3, rfl, _⟩ := (ok 3 _ _ rfl rfl).int Tryz.underlying3
    exact ⟨⟨a0, a1, a2, a3⟩, rfl⟩
end Go.Proofs.YtfiioadmpjmmgaaGreatDoor
