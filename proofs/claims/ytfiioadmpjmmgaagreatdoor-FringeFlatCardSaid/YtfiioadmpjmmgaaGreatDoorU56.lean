/- Chapter 1: the laws' arguments: a slice of float32. -/
import Derived.Test.YtfiioadmpjmmgaaGreatDoorU39
namespace Go.Proofs.YtfiioadmpjmmgaaGreatDoor
set_option linter.unusedVariables false
set_option linter.unusedSimpArgs false
open Go.ChangeShapes Go.WideShapes Go.RowKit Go.Deep
set_option maxRecDepth 100000 in
theorem open_f32s {H : Type} {enc : TypeId × Value → H} {w : World} {base : Nat} {spare : Nat → Bool} {held : Bool} {r : Reach} {b0 : Nat} {v : Value} {d : DataW H} {p : List MemPlace} (hv : Value.okWide Tryz.prog w r b0 58 v) (h : DataW.Trod enc Tryz.prog w base spare held 58 v d p) :
    ∃ (a : Option Addr) (m cap : Nat) (q : Nat → Nat), v = .slice a m cap ∧ SrcP w a m q := by
  obtain ⟨a0, l0, c0, rfl⟩ := okWide_slice Tryz.underlying58 hv
  obtain ⟨fuel, hf⟩ := h
  exact CellOk.parts (enc := enc) ⟨fuel, _, by simpa [Value.cells] using hf⟩
end Go.Proofs.YtfiioadmpjmmgaaGreatDoor
