/-
  DERIVED. GIVEN WITH THE SEED: THE CARDS: each row of YtakohhlmomgegaaDoorRows.lean that lists a variable, with what it lists TIED to the program's text (the seventh form; the later family's looks); each row that meets fmt, with fmt's text TOLD by the authors' own Lean function (tested against real Go, not proved from fmt's source: count such statements apart). THE CARD IS WHAT COUNTS. Prove the row's statement (the work); the ties are given (YtakohhlmomgegaaDoorTie.lean); close each card by the builder's one call (the guide's Derived/Test/ToyasCard.lean, 'card_holds'). Laid BY PROGRAM, IN A SANDBOX (cutbox-door.mjs). By AI agents, Wed Nov 11 2026. No macro, syntax, notation, axiom, sorry.
-/
import Derived.Test.YtakohhlmomgegaaDoorRows
import GoSem.ClaimSeven
namespace Go.Proofs.YtakohhlmomgegaaDoor
namespace Rows

/-- THE TIED CARD OF 'swathlaw01.EchoCompresses'. -/
def echoCompressesCard : Claim7 := { stood := { row := echoCompressesRow, standIns := [], harness := (true, "e56806a7c4e426ce1e3d1edc9bd8f6dd7548c96cb7ef2ec09be1efb8293247c5"), looks := false }, kinds := [], alts := [], laidByText := true, laidKinds := [.data, .data, .data], laidTests := true, laidLooks := .later }
def EchoCompressesCardSaid : Prop := Claim7.holds Tryd.pinned (.plain (OpenSpec.ofChange echoCompressesSpec)) echoCompressesCard

/-- THE TIED CARD OF 'swathlaw01.EchoPhases'. -/
def echoPhasesCard : Claim7 := { stood := { row := echoPhasesRow, standIns := [], harness := (true, "e56806a7c4e426ce1e3d1edc9bd8f6dd7548c96cb7ef2ec09be1efb8293247c5"), looks := false }, kinds := [], alts := [], laidByText := true, laidKinds := [.data, .data, .data], laidTests := true, laidLooks := .later }
def EchoPhasesCardSaid : Prop := Claim7.holds Tryd.pinned (.plain (OpenSpec.ofChange echoPhasesSpec)) echoPhasesCard

/-- THE TIED CARD OF 'swathlaw01.EchoCorrelates'. -/
def echoCorrelatesCard : Claim7 := { stood := { row := echoCorrelatesRow, standIns := [], harness := (true, "e56806a7c4e426ce1e3d1edc9bd8f6dd7548c96cb7ef2ec09be1efb8293247c5"), looks := false }, kinds := [], alts := [], laidByText := true, laidKinds := [.data, .data, .data], laidTests := true, laidLooks := .later }
def EchoCorrelatesCardSaid : Prop := Claim7.holds Tryd.pinned (.plain (OpenSpec.ofChange echoCorrelatesSpec)) echoCorrelatesCard

/-- THE TIED CARD OF 'swathlaw01.EchoTransforms'. -/
def echoTransformsCard : Claim7 := { stood := { row := echoTransformsRow, standIns := [], harness := (true, "e56806a7c4e426ce1e3d1edc9bd8f6dd7548c96cb7ef2ec09be1efb8293247c5"), looks := false }, kinds := [], alts := [], laidByText := true, laidKinds := [.data, .data, .data], laidTests := true, laidLooks := .later }
def EchoTransformsCardSaid : Prop := Claim7.holds Tryd.pinned (.plain (OpenSpec.ofChange echoTransformsSpec)) echoTransformsCard

/-- THE TIED CARD OF 'swathlaw01.EchoByTransforms'. -/
def echoByTransformsCard : Claim7 := { stood := { row := echoByTransformsRow, standIns := [], harness := (true, "e56806a7c4e426ce1e3d1edc9bd8f6dd7548c96cb7ef2ec09be1efb8293247c5"), looks := false }, kinds := [], alts := [], laidByText := true, laidKinds := [.data, .data, .data], laidTests := true, laidLooks := .later }
def EchoByTransformsCardSaid : Prop := Claim7.holds Tryd.pinned (.plain (OpenSpec.ofChange echoByTransformsSpec)) echoByTransformsCard

/-- THE TIED CARD OF 'swathlaw01.EchoDirections'. -/
def echoDirectionsCard : Claim7 := { stood := { row := echoDirectionsRow, standIns := [], harness := (true, "e56806a7c4e426ce1e3d1edc9bd8f6dd7548c96cb7ef2ec09be1efb8293247c5"), looks := false }, kinds := [], alts := [], laidByText := true, laidKinds := [.data, .data, .data], laidTests := true, laidLooks := .later }
def EchoDirectionsCardSaid : Prop := Claim7.holds Tryd.pinned (.plain (OpenSpec.ofChange echoDirectionsSpec)) echoDirectionsCard

/-- THE TIED CARD OF 'swathlaw01.EchoTurns'. -/
def echoTurnsCard : Claim7 := { stood := { row := echoTurnsRow, standIns := [], harness := (true, "e56806a7c4e426ce1e3d1edc9bd8f6dd7548c96cb7ef2ec09be1efb8293247c5"), looks := false }, kinds := [], alts := [], laidByText := true, laidKinds := [.data, .data, .data], laidTests := true, laidLooks := .later }
def EchoTurnsCardSaid : Prop := Claim7.holds Tryd.pinned (.plain (OpenSpec.ofChange echoTurnsSpec)) echoTurnsCard

/-- THE TIED CARD OF 'swathlaw01.EchoFocuses'. -/
def echoFocusesCard : Claim7 := { stood := { row := echoFocusesRow, standIns := [], harness := (true, "e56806a7c4e426ce1e3d1edc9bd8f6dd7548c96cb7ef2ec09be1efb8293247c5"), looks := false }, kinds := [], alts := [], laidByText := true, laidKinds := [.data, .data, .data], laidTests := true, laidLooks := .later }
def EchoFocusesCardSaid : Prop := Claim7.holds Tryd.pinned (.plain (OpenSpec.ofChange echoFocusesSpec)) echoFocusesCard

/-- THE TIED CARD OF 'swathlaw01.EchoTurning'. -/
def echoTurningCard : Claim7 := { stood := { row := echoTurningRow, standIns := [], harness := (true, "e56806a7c4e426ce1e3d1edc9bd8f6dd7548c96cb7ef2ec09be1efb8293247c5"), looks := false }, kinds := [], alts := [], laidByText := true, laidKinds := [.data, .data, .data], laidTests := true, laidLooks := .later }
def EchoTurningCardSaid : Prop := Claim7.holds Tryd.pinned (.plain (OpenSpec.ofChange echoTurningSpec)) echoTurningCard

/-- THE TIED CARD OF 'swathlaw01.EchoLinear'. -/
def echoLinearCard : Claim7 := { stood := { row := echoLinearRow, standIns := [], harness := (true, "e56806a7c4e426ce1e3d1edc9bd8f6dd7548c96cb7ef2ec09be1efb8293247c5"), looks := false }, kinds := [], alts := [], laidByText := true, laidKinds := [.data, .data, .data], laidTests := true, laidLooks := .later }
def EchoLinearCardSaid : Prop := Claim7.holds Tryd.pinned (.plain (OpenSpec.ofChange echoLinearSpec)) echoLinearCard

/-- THE TIED CARD OF 'swathlaw01.EchoImages'. -/
def echoImagesCard : Claim7 := { stood := { row := echoImagesRow, standIns := [], harness := (true, "e56806a7c4e426ce1e3d1edc9bd8f6dd7548c96cb7ef2ec09be1efb8293247c5"), looks := false }, kinds := [], alts := [], laidByText := true, laidKinds := [.data, .data, .data], laidTests := true, laidLooks := .later }
def EchoImagesCardSaid : Prop := Claim7.holds Tryd.pinned (.plain (OpenSpec.ofChange echoImagesSpec)) echoImagesCard

/-- THE TIED CARD OF 'swathlaw01.EchoFields'. -/
def echoFieldsCard : Claim7 := { stood := { row := echoFieldsRow, standIns := [], harness := (true, "e56806a7c4e426ce1e3d1edc9bd8f6dd7548c96cb7ef2ec09be1efb8293247c5"), looks := false }, kinds := [], alts := [], laidByText := true, laidKinds := [.data, .data, .data], laidTests := true, laidLooks := .later }
def EchoFieldsCardSaid : Prop := Claim7.holds Tryd.pinned (.plain (OpenSpec.ofChange echoFieldsSpec)) echoFieldsCard

/-- THE TIED CARD OF 'swathlaw01.EchoAdds'. -/
def echoAddsCard : Claim7 := { stood := { row := echoAddsRow, standIns := [], harness := (true, "e56806a7c4e426ce1e3d1edc9bd8f6dd7548c96cb7ef2ec09be1efb8293247c5"), looks := false }, kinds := [], alts := [], laidByText := true, laidKinds := [.data, .data, .data], laidTests := true, laidLooks := .later }
def EchoAddsCardSaid : Prop := Claim7.holds Tryd.pinned (.plain (OpenSpec.ofChange echoAddsSpec)) echoAddsCard

/-- THE TIED CARD OF 'swathlaw01.EchoResponds'. -/
def echoRespondsCard : Claim7 := { stood := { row := echoRespondsRow, standIns := [], harness := (true, "e56806a7c4e426ce1e3d1edc9bd8f6dd7548c96cb7ef2ec09be1efb8293247c5"), looks := false }, kinds := [], alts := [], laidByText := true, laidKinds := [.data, .data, .data], laidTests := true, laidLooks := .later }
def EchoRespondsCardSaid : Prop := Claim7.holds Tryd.pinned (.plain (OpenSpec.ofChange echoRespondsSpec)) echoRespondsCard

/-- THE SECOND FORM's CARD OF 'swathlaw01.EchoCompresses'. -/
def echoCompressesUptoCard : Claim7 := { stood := { row := echoCompressesUptoRow, standIns := [], harness := (true, "e56806a7c4e426ce1e3d1edc9bd8f6dd7548c96cb7ef2ec09be1efb8293247c5"), looks := false }, kinds := [], alts := [], laidByText := true, laidKinds := [.data, .data, .data], laidTests := true, laidLooks := .later }
def EchoCompressesUptoCardSaid : Prop := Claim7.holds Tryd.pinned (.plain (OpenSpec.upto echoCompressesSpec)) echoCompressesUptoCard

/-- THE SECOND FORM's CARD OF 'swathlaw01.EchoPhases'. -/
def echoPhasesUptoCard : Claim7 := { stood := { row := echoPhasesUptoRow, standIns := [], harness := (true, "e56806a7c4e426ce1e3d1edc9bd8f6dd7548c96cb7ef2ec09be1efb8293247c5"), looks := false }, kinds := [], alts := [], laidByText := true, laidKinds := [.data, .data, .data], laidTests := true, laidLooks := .later }
def EchoPhasesUptoCardSaid : Prop := Claim7.holds Tryd.pinned (.plain (OpenSpec.upto echoPhasesSpec)) echoPhasesUptoCard

/-- THE SECOND FORM's CARD OF 'swathlaw01.EchoCorrelates'. -/
def echoCorrelatesUptoCard : Claim7 := { stood := { row := echoCorrelatesUptoRow, standIns := [], harness := (true, "e56806a7c4e426ce1e3d1edc9bd8f6dd7548c96cb7ef2ec09be1efb8293247c5"), looks := false }, kinds := [], alts := [], laidByText := true, laidKinds := [.data, .data, .data], laidTests := true, laidLooks := .later }
def EchoCorrelatesUptoCardSaid : Prop := Claim7.holds Tryd.pinned (.plain (OpenSpec.upto echoCorrelatesSpec)) echoCorrelatesUptoCard

/-- THE SECOND FORM's CARD OF 'swathlaw01.EchoTransforms'. -/
def echoTransformsUptoCard : Claim7 := { stood := { row := echoTransformsUptoRow, standIns := [], harness := (true, "e56806a7c4e426ce1e3d1edc9bd8f6dd7548c96cb7ef2ec09be1efb8293247c5"), looks := false }, kinds := [], alts := [], laidByText := true, laidKinds := [.data, .data, .data], laidTests := true, laidLooks := .later }
def EchoTransformsUptoCardSaid : Prop := Claim7.holds Tryd.pinned (.plain (OpenSpec.upto echoTransformsSpec)) echoTransformsUptoCard

/-- THE SECOND FORM's CARD OF 'swathlaw01.EchoByTransforms'. -/
def echoByTransformsUptoCard : Claim7 := { stood := { row := echoByTransformsUptoRow, standIns := [], harness := (true, "e56806a7c4e426ce1e3d1edc9bd8f6dd7548c96cb7ef2ec09be1efb8293247c5"), looks := false }, kinds := [], alts := [], laidByText := true, laidKinds := [.data, .data, .data], laidTests := true, laidLooks := .later }
def EchoByTransformsUptoCardSaid : Prop := Claim7.holds Tryd.pinned (.plain (OpenSpec.upto echoByTransformsSpec)) echoByTransformsUptoCard

/-- THE SECOND FORM's CARD OF 'swathlaw01.EchoDirections'. -/
def echoDirectionsUptoCard : Claim7 := { stood := { row := echoDirectionsUptoRow, standIns := [], harness := (true, "e56806a7c4e426ce1e3d1edc9bd8f6dd7548c96cb7ef2ec09be1efb8293247c5"), looks := false }, kinds := [], alts := [], laidByText := true, laidKinds := [.data, .data, .data], laidTests := true, laidLooks := .later }
def EchoDirectionsUptoCardSaid : Prop := Claim7.holds Tryd.pinned (.plain (OpenSpec.upto echoDirectionsSpec)) echoDirectionsUptoCard

/-- THE SECOND FORM's CARD OF 'swathlaw01.EchoTurns'. -/
def echoTurnsUptoCard : Claim7 := { stood := { row := echoTurnsUptoRow, standIns := [], harness := (true, "e56806a7c4e426ce1e3d1edc9bd8f6dd7548c96cb7ef2ec09be1efb8293247c5"), looks := false }, kinds := [], alts := [], laidByText := true, laidKinds := [.data, .data, .data], laidTests := true, laidLooks := .later }
def EchoTurnsUptoCardSaid : Prop := Claim7.holds Tryd.pinned (.plain (OpenSpec.upto echoTurnsSpec)) echoTurnsUptoCard

/-- THE SECOND FORM's CARD OF 'swathlaw01.EchoFocuses'. -/
def echoFocusesUptoCard : Claim7 := { stood := { row := echoFocusesUptoRow, standIns := [], harness := (true, "e56806a7c4e426ce1e3d1edc9bd8f6dd7548c96cb7ef2ec09be1efb8293247c5"), looks := false }, kinds := [], alts := [], laidByText := true, laidKinds := [.data, .data, .data], laidTests := true, laidLooks := .later }
def EchoFocusesUptoCardSaid : Prop := Claim7.holds Tryd.pinned (.plain (OpenSpec.upto echoFocusesSpec)) echoFocusesUptoCard

/-- THE SECOND FORM's CARD OF 'swathlaw01.EchoTurning'. -/
def echoTurningUptoCard : Claim7 := { stood := { row := echoTurningUptoRow, standIns := [], harness := (true, "e56806a7c4e426ce1e3d1edc9bd8f6dd7548c96cb7ef2ec09be1efb8293247c5"), looks := false }, kinds := [], alts := [], laidByText := true, laidKinds := [.data, .data, .data], laidTests := true, laidLooks := .later }
def EchoTurningUptoCardSaid : Prop := Claim7.holds Tryd.pinned (.plain (OpenSpec.upto echoTurningSpec)) echoTurningUptoCard

/-- THE SECOND FORM's CARD OF 'swathlaw01.EchoLinear'. -/
def echoLinearUptoCard : Claim7 := { stood := { row := echoLinearUptoRow, standIns := [], harness := (true, "e56806a7c4e426ce1e3d1edc9bd8f6dd7548c96cb7ef2ec09be1efb8293247c5"), looks := false }, kinds := [], alts := [], laidByText := true, laidKinds := [.data, .data, .data], laidTests := true, laidLooks := .later }
def EchoLinearUptoCardSaid : Prop := Claim7.holds Tryd.pinned (.plain (OpenSpec.upto echoLinearSpec)) echoLinearUptoCard

/-- THE SECOND FORM's CARD OF 'swathlaw01.EchoImages'. -/
def echoImagesUptoCard : Claim7 := { stood := { row := echoImagesUptoRow, standIns := [], harness := (true, "e56806a7c4e426ce1e3d1edc9bd8f6dd7548c96cb7ef2ec09be1efb8293247c5"), looks := false }, kinds := [], alts := [], laidByText := true, laidKinds := [.data, .data, .data], laidTests := true, laidLooks := .later }
def EchoImagesUptoCardSaid : Prop := Claim7.holds Tryd.pinned (.plain (OpenSpec.upto echoImagesSpec)) echoImagesUptoCard

/-- THE SECOND FORM's CARD OF 'swathlaw01.EchoFields'. -/
def echoFieldsUptoCard : Claim7 := { stood := { row := echoFieldsUptoRow, standIns := [], harness := (true, "e56806a7c4e426ce1e3d1edc9bd8f6dd7548c96cb7ef2ec09be1efb8293247c5"), looks := false }, kinds := [], alts := [], laidByText := true, laidKinds := [.data, .data, .data], laidTests := true, laidLooks := .later }
def EchoFieldsUptoCardSaid : Prop := Claim7.holds Tryd.pinned (.plain (OpenSpec.upto echoFieldsSpec)) echoFieldsUptoCard

/-- THE SECOND FORM's CARD OF 'swathlaw01.EchoAdds'. -/
def echoAddsUptoCard : Claim7 := { stood := { row := echoAddsUptoRow, standIns := [], harness := (true, "e56806a7c4e426ce1e3d1edc9bd8f6dd7548c96cb7ef2ec09be1efb8293247c5"), looks := false }, kinds := [], alts := [], laidByText := true, laidKinds := [.data, .data, .data], laidTests := true, laidLooks := .later }
def EchoAddsUptoCardSaid : Prop := Claim7.holds Tryd.pinned (.plain (OpenSpec.upto echoAddsSpec)) echoAddsUptoCard

/-- THE SECOND FORM's CARD OF 'swathlaw01.EchoResponds'. -/
def echoRespondsUptoCard : Claim7 := { stood := { row := echoRespondsUptoRow, standIns := [], harness := (true, "e56806a7c4e426ce1e3d1edc9bd8f6dd7548c96cb7ef2ec09be1efb8293247c5"), looks := false }, kinds := [], alts := [], laidByText := true, laidKinds := [.data, .data, .data], laidTests := true, laidLooks := .later }
def EchoRespondsUptoCardSaid : Prop := Claim7.holds Tryd.pinned (.plain (OpenSpec.upto echoRespondsSpec)) echoRespondsUptoCard
end Rows
end Go.Proofs.YtakohhlmomgegaaDoor
