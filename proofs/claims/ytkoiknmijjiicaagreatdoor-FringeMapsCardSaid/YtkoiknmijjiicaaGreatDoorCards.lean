/-
  DERIVED. GIVEN WITH THE SEED: THE CARDS: each row of YtkoiknmijjiicaaGreatDoorRows.lean that lists a variable, with what it lists TIED to the program's text (the seventh form; the later family's looks); each row that meets fmt, with fmt's text TOLD by the authors' own Lean function (tested against real Go, not proved from fmt's source: count such statements apart). THE CARD IS WHAT COUNTS. Prove the row's statement (the work); the ties are given (YtkoiknmijjiicaaGreatDoorTie.lean); close each card by the builder's one call (the guide's Derived/Test/ToyasCard.lean, 'card_holds'). Laid BY PROGRAM, IN A SANDBOX (cutbox-door.mjs). By AI agents, Wed Nov 11 2026. No macro, syntax, notation, axiom, sorry.
-/
import Derived.Test.YtkoiknmijjiicaaGreatDoorRows
import GoSem.ClaimSeven
namespace Go.Proofs.YtkoiknmijjiicaaGreatDoor
namespace Rows

/-- THE TIED CARD OF 'swathlaw04.FringeCoheres'. -/
def fringeCoheresCard : Claim7 := { stood := { row := fringeCoheresRow, standIns := [], harness := (true, "1d8400d4873287222c0af53cfc732bbda54859f7191cf860c8f9cfb8c9d1e13d"), looks := true }, kinds := [], alts := [], laidByText := true, laidKinds := [.data, .data, .data], laidTests := true, laidLooks := .later }
def FringeCoheresCardSaid : Prop := Claim7.holds Tryz.pinned (.plain (OpenSpec.ofChange fringeCoheresSpec)) fringeCoheresCard

/-- THE TIED CARD OF 'swathlaw04.FringeReads'. -/
def fringeReadsCard : Claim7 := { stood := { row := fringeReadsRow, standIns := [], harness := (true, "1d8400d4873287222c0af53cfc732bbda54859f7191cf860c8f9cfb8c9d1e13d"), looks := true }, kinds := [], alts := [], laidByText := true, laidKinds := [.data, .data, .data, .data, .sentinel, .sentinel, .pinned], laidTests := true, laidLooks := .later }
def FringeReadsCardSaid : Prop := Claim7.holds Tryz.pinned (.plain (OpenSpec.ofChange fringeReadsSpec)) fringeReadsCard

/-- THE TIED CARD OF 'swathlaw04.FringeMaps'. -/
def fringeMapsCard : Claim7 := { stood := { row := fringeMapsRow, standIns := [], harness := (true, "1d8400d4873287222c0af53cfc732bbda54859f7191cf860c8f9cfb8c9d1e13d"), looks := true }, kinds := [], alts := [], laidByText := true, laidKinds := [.data, .data, .data, .data, .sentinel, .sentinel, .pinned], laidTests := true, laidLooks := .later }
def FringeMapsCardSaid : Prop := Claim7.holds Tryz.pinned (.plain (OpenSpec.ofChange fringeMapsSpec)) fringeMapsCard

/-- THE SECOND FORM's CARD OF 'swathlaw04.FringeCoheres'. -/
def fringeCoheresUptoCard : Claim7 := { stood := { row := fringeCoheresUptoRow, standIns := [], harness := (true, "1d8400d4873287222c0af53cfc732bbda54859f7191cf860c8f9cfb8c9d1e13d"), looks := true }, kinds := [], alts := [], laidByText := true, laidKinds := [.data, .data, .data], laidTests := true, laidLooks := .later }
def FringeCoheresUptoCardSaid : Prop := Claim7.holds Tryz.pinned (.plain (OpenSpec.upto fringeCoheresSpec)) fringeCoheresUptoCard

/-- THE SECOND FORM's CARD OF 'swathlaw04.FringeReads'. -/
def fringeReadsUptoCard : Claim7 := { stood := { row := fringeReadsUptoRow, standIns := [], harness := (true, "1d8400d4873287222c0af53cfc732bbda54859f7191cf860c8f9cfb8c9d1e13d"), looks := true }, kinds := [], alts := [], laidByText := true, laidKinds := [.data, .data, .data, .data, .sentinel, .sentinel, .pinned], laidTests := true, laidLooks := .later }
def FringeReadsUptoCardSaid : Prop := Claim7.holds Tryz.pinned (.plain (OpenSpec.upto fringeReadsSpec)) fringeReadsUptoCard

/-- THE SECOND FORM's CARD OF 'swathlaw04.FringeMaps'. -/
def fringeMapsUptoCard : Claim7 := { stood := { row := fringeMapsUptoRow, standIns := [], harness := (true, "1d8400d4873287222c0af53cfc732bbda54859f7191cf860c8f9cfb8c9d1e13d"), looks := true }, kinds := [], alts := [], laidByText := true, laidKinds := [.data, .data, .data, .data, .sentinel, .sentinel, .pinned], laidTests := true, laidLooks := .later }
def FringeMapsUptoCardSaid : Prop := Claim7.holds Tryz.pinned (.plain (OpenSpec.upto fringeMapsSpec)) fringeMapsUptoCard
end Rows
end Go.Proofs.YtkoiknmijjiicaaGreatDoor
