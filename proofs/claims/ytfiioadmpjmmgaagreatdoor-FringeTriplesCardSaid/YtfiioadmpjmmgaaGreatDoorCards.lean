/-
  DERIVED. GIVEN WITH THE SEED: THE CARDS: each row of YtfiioadmpjmmgaaGreatDoorRows.lean that lists a variable, with what it lists TIED to the program's text (the seventh form; the later family's looks); each row that meets fmt, with fmt's text TOLD by the authors' own Lean function (tested against real Go, not proved from fmt's source: count such statements apart). THE CARD IS WHAT COUNTS. Prove the row's statement (the work); the ties are given (YtfiioadmpjmmgaaGreatDoorTie.lean); close each card by the builder's one call (the guide's Derived/Test/ToyasCard.lean, 'card_holds'). Laid BY PROGRAM, IN A SANDBOX (cutbox-door.mjs). By AI agents, Wed Nov 11 2026. No macro, syntax, notation, axiom, sorry.
-/
import Derived.Test.YtfiioadmpjmmgaaGreatDoorRows
import GoSem.ClaimSeven
namespace Go.Proofs.YtfiioadmpjmmgaaGreatDoor
namespace Rows

/-- THE TIED CARD OF 'swathlaw04.FringeFilters'. -/
def fringeFiltersCard : Claim7 := { stood := { row := fringeFiltersRow, standIns := [], harness := (true, "2990cbf525669eb842a28a74e203c675d5b057274c914559e7c1850b06096591"), looks := true }, kinds := [], alts := [], laidByText := true, laidKinds := [.data, .data, .data], laidTests := true, laidLooks := .later }
def FringeFiltersCardSaid : Prop := Claim7.holds Tryz.pinned (.plain (OpenSpec.ofChange fringeFiltersSpec)) fringeFiltersCard

/-- THE TIED CARD OF 'swathlaw04.FringeCombines'. -/
def fringeCombinesCard : Claim7 := { stood := { row := fringeCombinesRow, standIns := [], harness := (true, "2990cbf525669eb842a28a74e203c675d5b057274c914559e7c1850b06096591"), looks := true }, kinds := [], alts := [], laidByText := true, laidKinds := [.data, .data, .data], laidTests := true, laidLooks := .later }
def FringeCombinesCardSaid : Prop := Claim7.holds Tryz.pinned (.plain (OpenSpec.ofChange fringeCombinesSpec)) fringeCombinesCard

/-- THE TIED CARD OF 'swathlaw04.FringeCloses'. -/
def fringeClosesCard : Claim7 := { stood := { row := fringeClosesRow, standIns := [], harness := (true, "2990cbf525669eb842a28a74e203c675d5b057274c914559e7c1850b06096591"), looks := true }, kinds := [], alts := [], laidByText := true, laidKinds := [.data, .data, .data], laidTests := true, laidLooks := .later }
def FringeClosesCardSaid : Prop := Claim7.holds Tryz.pinned (.plain (OpenSpec.ofChange fringeClosesSpec)) fringeClosesCard

/-- THE TIED CARD OF 'swathlaw04.FringeCoheres'. -/
def fringeCoheresCard : Claim7 := { stood := { row := fringeCoheresRow, standIns := [], harness := (true, "2990cbf525669eb842a28a74e203c675d5b057274c914559e7c1850b06096591"), looks := true }, kinds := [], alts := [], laidByText := true, laidKinds := [.data, .data, .data], laidTests := true, laidLooks := .later }
def FringeCoheresCardSaid : Prop := Claim7.holds Tryz.pinned (.plain (OpenSpec.ofChange fringeCoheresSpec)) fringeCoheresCard

/-- THE TIED CARD OF 'swathlaw04.FringeModels'. -/
def fringeModelsCard : Claim7 := { stood := { row := fringeModelsRow, standIns := [], harness := (true, "2990cbf525669eb842a28a74e203c675d5b057274c914559e7c1850b06096591"), looks := true }, kinds := [], alts := [], laidByText := true, laidKinds := [.data, .data, .data], laidTests := true, laidLooks := .later }
def FringeModelsCardSaid : Prop := Claim7.holds Tryz.pinned (.plain (OpenSpec.ofChange fringeModelsSpec)) fringeModelsCard

/-- THE TIED CARD OF 'swathlaw04.FringeFlat'. -/
def fringeFlatCard : Claim7 := { stood := { row := fringeFlatRow, standIns := [], harness := (true, "2990cbf525669eb842a28a74e203c675d5b057274c914559e7c1850b06096591"), looks := true }, kinds := [], alts := [], laidByText := true, laidKinds := [.data, .data, .data], laidTests := true, laidLooks := .later }
def FringeFlatCardSaid : Prop := Claim7.holds Tryz.pinned (.plain (OpenSpec.ofChange fringeFlatSpec)) fringeFlatCard

/-- THE TIED CARD OF 'swathlaw04.FringeLooks'. -/
def fringeLooksCard : Claim7 := { stood := { row := fringeLooksRow, standIns := [], harness := (true, "2990cbf525669eb842a28a74e203c675d5b057274c914559e7c1850b06096591"), looks := true }, kinds := [], alts := [], laidByText := true, laidKinds := [.data, .data, .data], laidTests := true, laidLooks := .later }
def FringeLooksCardSaid : Prop := Claim7.holds Tryz.pinned (.plain (OpenSpec.ofChange fringeLooksSpec)) fringeLooksCard

/-- THE TIED CARD OF 'swathlaw04.FringeTriples'. -/
def fringeTriplesCard : Claim7 := { stood := { row := fringeTriplesRow, standIns := [], harness := (true, "2990cbf525669eb842a28a74e203c675d5b057274c914559e7c1850b06096591"), looks := true }, kinds := [], alts := [], laidByText := true, laidKinds := [.data, .data, .data], laidTests := true, laidLooks := .later }
def FringeTriplesCardSaid : Prop := Claim7.holds Tryz.pinned (.plain (OpenSpec.ofChange fringeTriplesSpec)) fringeTriplesCard

/-- THE TIED CARD OF 'swathlaw04.FringeReads'. -/
def fringeReadsCard : Claim7 := { stood := { row := fringeReadsRow, standIns := [], harness := (true, "2990cbf525669eb842a28a74e203c675d5b057274c914559e7c1850b06096591"), looks := true }, kinds := [], alts := [], laidByText := true, laidKinds := [.data, .data, .data, .data, .sentinel, .sentinel, .pinned], laidTests := true, laidLooks := .later }
def FringeReadsCardSaid : Prop := Claim7.holds Tryz.pinned (.plain (OpenSpec.ofChange fringeReadsSpec)) fringeReadsCard

/-- THE TIED CARD OF 'swathlaw04.FringeMaps'. -/
def fringeMapsCard : Claim7 := { stood := { row := fringeMapsRow, standIns := [], harness := (true, "2990cbf525669eb842a28a74e203c675d5b057274c914559e7c1850b06096591"), looks := true }, kinds := [], alts := [], laidByText := true, laidKinds := [.data, .data, .data, .data, .sentinel, .sentinel, .pinned], laidTests := true, laidLooks := .later }
def FringeMapsCardSaid : Prop := Claim7.holds Tryz.pinned (.plain (OpenSpec.ofChange fringeMapsSpec)) fringeMapsCard

/-- THE SECOND FORM's CARD OF 'swathlaw04.FringeFilters'. -/
def fringeFiltersUptoCard : Claim7 := { stood := { row := fringeFiltersUptoRow, standIns := [], harness := (true, "2990cbf525669eb842a28a74e203c675d5b057274c914559e7c1850b06096591"), looks := true }, kinds := [], alts := [], laidByText := true, laidKinds := [.data, .data, .data], laidTests := true, laidLooks := .later }
def FringeFiltersUptoCardSaid : Prop := Claim7.holds Tryz.pinned (.plain (OpenSpec.upto fringeFiltersSpec)) fringeFiltersUptoCard

/-- THE SECOND FORM's CARD OF 'swathlaw04.FringeCombines'. -/
def fringeCombinesUptoCard : Claim7 := { stood := { row := fringeCombinesUptoRow, standIns := [], harness := (true, "2990cbf525669eb842a28a74e203c675d5b057274c914559e7c1850b06096591"), looks := true }, kinds := [], alts := [], laidByText := true, laidKinds := [.data, .data, .data], laidTests := true, laidLooks := .later }
def FringeCombinesUptoCardSaid : Prop := Claim7.holds Tryz.pinned (.plain (OpenSpec.upto fringeCombinesSpec)) fringeCombinesUptoCard

/-- THE SECOND FORM's CARD OF 'swathlaw04.FringeCloses'. -/
def fringeClosesUptoCard : Claim7 := { stood := { row := fringeClosesUptoRow, standIns := [], harness := (true, "2990cbf525669eb842a28a74e203c675d5b057274c914559e7c1850b06096591"), looks := true }, kinds := [], alts := [], laidByText := true, laidKinds := [.data, .data, .data], laidTests := true, laidLooks := .later }
def FringeClosesUptoCardSaid : Prop := Claim7.holds Tryz.pinned (.plain (OpenSpec.upto fringeClosesSpec)) fringeClosesUptoCard

/-- THE SECOND FORM's CARD OF 'swathlaw04.FringeCoheres'. -/
def fringeCoheresUptoCard : Claim7 := { stood := { row := fringeCoheresUptoRow, standIns := [], harness := (true, "2990cbf525669eb842a28a74e203c675d5b057274c914559e7c1850b06096591"), looks := true }, kinds := [], alts := [], laidByText := true, laidKinds := [.data, .data, .data], laidTests := true, laidLooks := .later }
def FringeCoheresUptoCardSaid : Prop := Claim7.holds Tryz.pinned (.plain (OpenSpec.upto fringeCoheresSpec)) fringeCoheresUptoCard

/-- THE SECOND FORM's CARD OF 'swathlaw04.FringeModels'. -/
def fringeModelsUptoCard : Claim7 := { stood := { row := fringeModelsUptoRow, standIns := [], harness := (true, "2990cbf525669eb842a28a74e203c675d5b057274c914559e7c1850b06096591"), looks := true }, kinds := [], alts := [], laidByText := true, laidKinds := [.data, .data, .data], laidTests := true, laidLooks := .later }
def FringeModelsUptoCardSaid : Prop := Claim7.holds Tryz.pinned (.plain (OpenSpec.upto fringeModelsSpec)) fringeModelsUptoCard

/-- THE SECOND FORM's CARD OF 'swathlaw04.FringeFlat'. -/
def fringeFlatUptoCard : Claim7 := { stood := { row := fringeFlatUptoRow, standIns := [], harness := (true, "2990cbf525669eb842a28a74e203c675d5b057274c914559e7c1850b06096591"), looks := true }, kinds := [], alts := [], laidByText := true, laidKinds := [.data, .data, .data], laidTests := true, laidLooks := .later }
def FringeFlatUptoCardSaid : Prop := Claim7.holds Tryz.pinned (.plain (OpenSpec.upto fringeFlatSpec)) fringeFlatUptoCard

/-- THE SECOND FORM's CARD OF 'swathlaw04.FringeLooks'. -/
def fringeLooksUptoCard : Claim7 := { stood := { row := fringeLooksUptoRow, standIns := [], harness := (true, "2990cbf525669eb842a28a74e203c675d5b057274c914559e7c1850b06096591"), looks := true }, kinds := [], alts := [], laidByText := true, laidKinds := [.data, .data, .data], laidTests := true, laidLooks := .later }
def FringeLooksUptoCardSaid : Prop := Claim7.holds Tryz.pinned (.plain (OpenSpec.upto fringeLooksSpec)) fringeLooksUptoCard

/-- THE SECOND FORM's CARD OF 'swathlaw04.FringeTriples'. -/
def fringeTriplesUptoCard : Claim7 := { stood := { row := fringeTriplesUptoRow, standIns := [], harness := (true, "2990cbf525669eb842a28a74e203c675d5b057274c914559e7c1850b06096591"), looks := true }, kinds := [], alts := [], laidByText := true, laidKinds := [.data, .data, .data], laidTests := true, laidLooks := .later }
def FringeTriplesUptoCardSaid : Prop := Claim7.holds Tryz.pinned (.plain (OpenSpec.upto fringeTriplesSpec)) fringeTriplesUptoCard

/-- THE SECOND FORM's CARD OF 'swathlaw04.FringeReads'. -/
def fringeReadsUptoCard : Claim7 := { stood := { row := fringeReadsUptoRow, standIns := [], harness := (true, "2990cbf525669eb842a28a74e203c675d5b057274c914559e7c1850b06096591"), looks := true }, kinds := [], alts := [], laidByText := true, laidKinds := [.data, .data, .data, .data, .sentinel, .sentinel, .pinned], laidTests := true, laidLooks := .later }
def FringeReadsUptoCardSaid : Prop := Claim7.holds Tryz.pinned (.plain (OpenSpec.upto fringeReadsSpec)) fringeReadsUptoCard

/-- THE SECOND FORM's CARD OF 'swathlaw04.FringeMaps'. -/
def fringeMapsUptoCard : Claim7 := { stood := { row := fringeMapsUptoRow, standIns := [], harness := (true, "2990cbf525669eb842a28a74e203c675d5b057274c914559e7c1850b06096591"), looks := true }, kinds := [], alts := [], laidByText := true, laidKinds := [.data, .data, .data, .data, .sentinel, .sentinel, .pinned], laidTests := true, laidLooks := .later }
def FringeMapsUptoCardSaid : Prop := Claim7.holds Tryz.pinned (.plain (OpenSpec.upto fringeMapsSpec)) fringeMapsUptoCard
end Rows
end Go.Proofs.YtfiioadmpjmmgaaGreatDoor
