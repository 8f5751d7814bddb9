/-
  DERIVED. GIVEN WITH THE SEED: THE CARDS: each row of YtakohhlmomgegaaGreatDoorRows.lean that lists a variable, with what it lists TIED to the program's text (the seventh form; the later family's looks); each row that meets fmt, with fmt's text TOLD by the authors' own Lean function (tested against real Go, not proved from fmt's source: count such statements apart). THE CARD IS WHAT COUNTS. Prove the row's statement (the work); the ties are given (YtakohhlmomgegaaGreatDoorTie.lean); close each card by the builder's one call (the guide's Derived/Test/ToyasCard.lean, 'card_holds'). Laid BY PROGRAM, IN A SANDBOX (cutbox-door.mjs). By AI agents, Wed Nov 11 2026. No macro, syntax, notation, axiom, sorry.
-/
import Derived.Test.YtakohhlmomgegaaGreatDoorRows
import GoSem.ClaimSeven
namespace Go.Proofs.YtakohhlmomgegaaGreatDoor
namespace Rows

/-- THE TIED CARD OF 'swathlaw01.EchoDopplers'. -/
def echoDopplersCard : Claim7 := { stood := { row := echoDopplersRow, standIns := [], harness := (true, "b28c5a9661780b10178978eb90eb78a8e145bee3164876d4e9ab898d8cf528ef"), looks := true }, kinds := [], alts := [], laidByText := true, laidKinds := [.data, .data, .data], laidTests := true, laidLooks := .later }
def EchoDopplersCardSaid : Prop := Claim7.holds Tryz.pinned (.plain (OpenSpec.ofChange echoDopplersSpec)) echoDopplersCard

/-- THE TIED CARD OF 'swathlaw01.EchoTexts'. -/
def echoTextsCard : Claim7 := { stood := { row := echoTextsRow, standIns := [], harness := (true, "b28c5a9661780b10178978eb90eb78a8e145bee3164876d4e9ab898d8cf528ef"), looks := true }, kinds := [], alts := [], laidByText := true, laidKinds := [.data, .data, .data, .data, .sentinel, .sentinel, .pinned], laidTests := true, laidLooks := .later }
def EchoTextsCardSaid : Prop := Claim7.holds Tryz.pinned (.plain (OpenSpec.ofChange echoTextsSpec)) echoTextsCard

/-- THE SECOND FORM's CARD OF 'swathlaw01.EchoDopplers'. -/
def echoDopplersUptoCard : Claim7 := { stood := { row := echoDopplersUptoRow, standIns := [], harness := (true, "b28c5a9661780b10178978eb90eb78a8e145bee3164876d4e9ab898d8cf528ef"), looks := true }, kinds := [], alts := [], laidByText := true, laidKinds := [.data, .data, .data], laidTests := true, laidLooks := .later }
def EchoDopplersUptoCardSaid : Prop := Claim7.holds Tryz.pinned (.plain (OpenSpec.upto echoDopplersSpec)) echoDopplersUptoCard

/-- THE SECOND FORM's CARD OF 'swathlaw01.EchoTexts'. -/
def echoTextsUptoCard : Claim7 := { stood := { row := echoTextsUptoRow, standIns := [], harness := (true, "b28c5a9661780b10178978eb90eb78a8e145bee3164876d4e9ab898d8cf528ef"), looks := true }, kinds := [], alts := [], laidByText := true, laidKinds := [.data, .data, .data, .data, .sentinel, .sentinel, .pinned], laidTests := true, laidLooks := .later }
def EchoTextsUptoCardSaid : Prop := Claim7.holds Tryz.pinned (.plain (OpenSpec.upto echoTextsSpec)) echoTextsUptoCard
end Rows
end Go.Proofs.YtakohhlmomgegaaGreatDoor
