/- Chapter 1: the laws' arguments: two numbers. -/
import Derived.Test.YtfiioadmpjmmgaaGreatDoorU64
import Derived.WideKeyArr2
namespace Go.Proofs.YtfiioadmpjmmgaaGreatDoor
set_option linter.unusedVariables false
set_option linter.unusedSimpArgs false
open Go.ChangeShapes Go.WideShapes Go.RowKit Go.Deep
theorem leafs_a2 : leafs Tryz.prog 8 90 = some [3, 3] := by kernel_rfl
theorem key_a2 : WideMaps.ArrKey Tryz.prog 90 3 2 := ⟨Tryz.underlying90, by kernel_rfl, by kernel_rfl, by kernel_rfl⟩
set_option maxRecDepth 100000 in
theorem open_a2 {H : Type} {enc : TypeId × Value → H} {w : World} {base : Nat} {spare : Nat → Bool} {held : Bool} {r : Reach} {b0 : Nat} {v : Value} {d : DataW H} {p : List MemPlace} (hv : Value.okWide Tryz.prog w r b0 90 v) (h : DataW.Trod enc Tryz.prog w base spare held 90 v d p) :
    ∃ c0 c1 : Int, v = .agg #[.int .i64 c0, .int .i64 c1] ∧ (-9223372036854775808 ≤ c0 ∧ c0 ≤ 9223372036854775807) ∧ (-9223372036854775808 ≤ c1 ∧ c1 ≤ 9223372036854775807) := by
  obtain ⟨cs, rfl, hs⟩ := WideMaps.okWide_arr key_a2 hv
  obtain ⟨l⟩ := cs
  obtain ⟨fuel, hf⟩ := h
  have ok := leafs_ok 8 90 _ fuel _ _ leafs_a2 (by simpa [Value.cells] using hf)
  have hn : l.length = 2 := by simpa using hs
  match l, hn with
  | [c0, c1], _ =>
    obtain ⟨a0, rfl, h0⟩ := (ok 0 _ _ rfl rfl).int Tryz.underlying3
    obtain ⟨a1, rfl, h1⟩ := (ok 1 _ _ rfl rfl).int Tryz.underlying3
    exact ⟨a0, a1, rfl, wf_i64 h0, wf_i64 h1⟩
end Go.Proofs.YtfiioadmpjmmgaaGreatDoor
