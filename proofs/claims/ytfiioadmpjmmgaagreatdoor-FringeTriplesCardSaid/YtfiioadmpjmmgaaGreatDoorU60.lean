/- Chapter 1: the program's search, with the closure of Direction; Direction. -/
import Derived.Test.YtfiioadmpjmmgaaGreatDoorZO
namespace Go.Proofs.YtfiioadmpjmmgaaGreatDoor
set_option linter.unusedVariables false
set_option linter.unusedSimpArgs false
open Go.RowKit
/-- Whether a number lies behind another one, and whether it is this one. -/
def dirB (m : Int) (n : Int) (_ : Int × Int) : Bool × Bool := (decide (n < m), (m == n))
/-- What Direction returns. -/
def dirP (m : Int) : Int × Int := if m = 0 then oneW else if m = 1024 then halfW else (searchP (dirB m)).2
end Go.Proofs.YtfiioadmpjmmgaaGreatDoor
