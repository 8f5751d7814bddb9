/-
  DERIVED. GIVEN WITH THE SEED: THE CARDS: each row of YtfiioadmpjmmgaaDoorRows.lean that lists a variable, with what it lists TIED to the program's text (the seventh form; the later family's looks); each row that meets fmt, with fmt's text TOLD by the authors' own Lean function (tested against real Go, not proved from fmt's source: count such statements apart). THE CARD IS WHAT COUNTS. Prove the row's statement (the work); the ties are given (YtfiioadmpjmmgaaDoorTie.lean); close each card by the builder's one call (the guide's Derived/Test/ToyasCard.lean, 'card_holds'). Laid BY PROGRAM, IN A SANDBOX (cutbox-door.mjs). By AI agents, Wed Nov 11 2026. No macro, syntax, notation, axiom, sorry.
-/
import Derived.Test.YtfiioadmpjmmgaaDoorRows
import GoSem.ClaimSeven
namespace Go.Proofs.YtfiioadmpjmmgaaDoor
namespace Rows

/-- THE TIED CARD OF 'swathlaw04.FringeInterferes'. -/
def fringeInterferesCard : Claim7 := { stood := { row := fringeInterferesRow, standIns := [], harness := (true, "2fe349856666a218893335254993cfd12801063a3133a46cf3fc80ea424465f1"), looks := false }, kinds := [], alts := [], laidByText := true, laidKinds := [.data, .data, .data], laidTests := true, laidLooks := .later }
def FringeInterferesCardSaid : Prop := Claim7.holds Tryd.pinned (.plain (OpenSpec.ofChange fringeInterferesSpec)) fringeInterferesCard

/-- THE TIED CARD OF 'swathlaw04.FringeSquares'. -/
def fringeSquaresCard : Claim7 := { stood := { row := fringeSquaresRow, standIns := [], harness := (true, "2fe349856666a218893335254993cfd12801063a3133a46cf3fc80ea424465f1"), looks := false }, kinds := [], alts := [], laidByText := true, laidKinds := [.data, .data, .data], laidTests := true, laidLooks := .later }
def FringeSquaresCardSaid : Prop := Claim7.holds Tryd.pinned (.plain (OpenSpec.ofChange fringeSquaresSpec)) fringeSquaresCard

/-- THE TIED CARD OF 'swathlaw04.FringeResidues'. -/
def fringeResiduesCard : Claim7 := { stood := { row := fringeResiduesRow, standIns := [], harness := (true, "2fe349856666a218893335254993cfd12801063a3133a46cf3fc80ea424465f1"), looks := false }, kinds := [], alts := [], laidByText := true, laidKinds := [.data, .data, .data], laidTests := true, laidLooks := .later }
def FringeResiduesCardSaid : Prop := Claim7.holds Tryd.pinned (.plain (OpenSpec.ofChange fringeResiduesSpec)) fringeResiduesCard

/-- THE TIED CARD OF 'swathlaw04.FringeTurns'. -/
def fringeTurnsCard : Claim7 := { stood := { row := fringeTurnsRow, standIns := [], harness := (true, "2fe349856666a218893335254993cfd12801063a3133a46cf3fc80ea424465f1"), looks := false }, kinds := [], alts := [], laidByText := true, laidKinds := [.data, .data, .data], laidTests := true, laidLooks := .later }
def FringeTurnsCardSaid : Prop := Claim7.holds Tryd.pinned (.plain (OpenSpec.ofChange fringeTurnsSpec)) fringeTurnsCard

/-- THE TIED CARD OF 'swathlaw04.FringeSteps'. -/
def fringeStepsCard : Claim7 := { stood := { row := fringeStepsRow, standIns := [], harness := (true, "2fe349856666a218893335254993cfd12801063a3133a46cf3fc80ea424465f1"), looks := false }, kinds := [], alts := [], laidByText := true, laidKinds := [.data, .data, .data], laidTests := true, laidLooks := .later }
def FringeStepsCardSaid : Prop := Claim7.holds Tryd.pinned (.plain (OpenSpec.ofChange fringeStepsSpec)) fringeStepsCard

/-- THE TIED CARD OF 'swathlaw04.FringeMasks'. -/
def fringeMasksCard : Claim7 := { stood := { row := fringeMasksRow, standIns := [], harness := (true, "2fe349856666a218893335254993cfd12801063a3133a46cf3fc80ea424465f1"), looks := false }, kinds := [], alts := [], laidByText := true, laidKinds := [.data, .data, .data], laidTests := true, laidLooks := .later }
def FringeMasksCardSaid : Prop := Claim7.holds Tryd.pinned (.plain (OpenSpec.ofChange fringeMasksSpec)) fringeMasksCard

/-- THE SECOND FORM's CARD OF 'swathlaw04.FringeInterferes'. -/
def fringeInterferesUptoCard : Claim7 := { stood := { row := fringeInterferesUptoRow, standIns := [], harness := (true, "2fe349856666a218893335254993cfd12801063a3133a46cf3fc80ea424465f1"), looks := false }, kinds := [], alts := [], laidByText := true, laidKinds := [.data, .data, .data], laidTests := true, laidLooks := .later }
def FringeInterferesUptoCardSaid : Prop := Claim7.holds Tryd.pinned (.plain (OpenSpec.upto fringeInterferesSpec)) fringeInterferesUptoCard

/-- THE SECOND FORM's CARD OF 'swathlaw04.FringeSquares'. -/
def fringeSquaresUptoCard : Claim7 := { stood := { row := fringeSquaresUptoRow, standIns := [], harness := (true, "2fe349856666a218893335254993cfd12801063a3133a46cf3fc80ea424465f1"), looks := false }, kinds := [], alts := [], laidByText := true, laidKinds := [.data, .data, .data], laidTests := true, laidLooks := .later }
def FringeSquaresUptoCardSaid : Prop := Claim7.holds Tryd.pinned (.plain (OpenSpec.upto fringeSquaresSpec)) fringeSquaresUptoCard

/-- THE SECOND FORM's CARD OF 'swathlaw04.FringeResidues'. -/
def fringeResiduesUptoCard : Claim7 := { stood := { row := fringeResiduesUptoRow, standIns := [], harness := (true, "2fe349856666a218893335254993cfd12801063a3133a46cf3fc80ea424465f1"), looks := false }, kinds := [], alts := [], laidByText := true, laidKinds := [.data, .data, .data], laidTests := true, laidLooks := .later }
def FringeResiduesUptoCardSaid : Prop := Claim7.holds Tryd.pinned (.plain (OpenSpec.upto fringeResiduesSpec)) fringeResiduesUptoCard

/-- THE SECOND FORM's CARD OF 'swathlaw04.FringeTurns'. -/
def fringeTurnsUptoCard : Claim7 := { stood := { row := fringeTurnsUptoRow, standIns := [], harness := (true, "2fe349856666a218893335254993cfd12801063a3133a46cf3fc80ea424465f1"), looks := false }, kinds := [], alts := [], laidByText := true, laidKinds := [.data, .data, .data], laidTests := true, laidLooks := .later }
def FringeTurnsUptoCardSaid : Prop := Claim7.holds Tryd.pinned (.plain (OpenSpec.upto fringeTurnsSpec)) fringeTurnsUptoCard

/-- THE SECOND FORM's CARD OF 'swathlaw04.FringeSteps'. -/
def fringeStepsUptoCard : Claim7 := { stood := { row := fringeStepsUptoRow, standIns := [], harness := (true, "2fe349856666a218893335254993cfd12801063a3133a46cf3fc80ea424465f1"), looks := false }, kinds := [], alts := [], laidByText := true, laidKinds := [.data, .data, .data], laidTests := true, laidLooks := .later }
def FringeStepsUptoCardSaid : Prop := Claim7.holds Tryd.pinned (.plain (OpenSpec.upto fringeStepsSpec)) fringeStepsUptoCard

/-- THE SECOND FORM's CARD OF 'swathlaw04.FringeMasks'. -/
def fringeMasksUptoCard : Claim7 := { stood := { row := fringeMasksUptoRow, standIns := [], harness := (true, "2fe349856666a218893335254993cfd12801063a3133a46cf3fc80ea424465f1"), looks := false }, kinds := [], alts := [], laidByText := true, laidKinds := [.data, .data, .data], laidTests := true, laidLooks := .later }
def FringeMasksUptoCardSaid : Prop := Claim7.holds Tryd.pinned (.plain (OpenSpec.upto fringeMasksSpec)) fringeMasksUptoCard
end Rows
end Go.Proofs.YtfiioadmpjmmgaaDoor
