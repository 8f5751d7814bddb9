/- Chapter 4: the laws' arguments: a truth value. -/
import Derived.Test.YtfiioadmpjmmgaaDoorX43
import Derived.Test.YtfiioadmpjmmgaaDoorU103
namespace Go.Proofs.YtfiioadmpjmmgaaDoor
set_option linter.unusedVariables false
set_option linter.unusedSimpArgs false
open Go.ChangeShapes Go.WideShapes Go.RowKit Go.Deep
set_option maxRecDepth 100000 in
theorem open_bl {H : Type} {enc : TypeId × Value → H} {w : World} {base : Nat} {spare : Nat → Bool} {held : Bool} {r : Reach} {b0 : Nat} {v : Value} {d : DataW H} {p : List MemPlace} (hv : Value.okWide Tryd.prog w r b0 4 v) (_h : DataW.Trod enc Tryd.prog w base spare held 4 v d p) : ∃ b : Bool, v = .bool b :=
  okWide_bool Tryd.underlying4 hv
end Go.Proofs.YtfiioadmpjmmgaaDoor
