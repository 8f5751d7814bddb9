/-
  No cell of these rows narrows 'for every input' (looked for: loops, veiled, ifaces, maps, wideKeys, modest, calm, conditions, laid).
  DERIVED. THE GIVEN ROWS OF THIS SEAT. 4 by the template 'for every input the law returns true; each argument reads behind the call as it read before'; 0 by the template 'total and deterministic' (their statements: YtcmjlfhnibjofaaTotals.lean).
  GIVEN WITH THE SEED: the statements are not yours to turn. If you find one false, say at which input.
  Laid BY PROGRAM, IN A SANDBOX (cutbox-rows.mjs): the forced cells as the released guide's own fill.sh prints them over the translation 8a9db6ccb577af40… (all of the seat's roots in one cut). By AI agents, Wed Nov 11 2026. No macro, syntax, notation, axiom, sorry.
-/
import Derived.Test.YtcmjlfhnibjofaaChecked
import GoSem.Claim
import GoSem.ClaimJoined
import GoSem.ClaimMapViews
import Derived.JoinedTies
import Derived.KernelRfl
namespace Go.Proofs.Ytcmjlfhnibjofaa
/- THE CELL 'sum', in the pinned program and in every row, IS THE sha256 OF THE DUMP (.gsa) THAT YtcmjlfhnibjofaaProg.lean LOADS. Nothing in Lean hashes anything: it is a label: what it is worth is what the hold of that sum in a sandbox is worth. -/
noncomputable def Try.pinned : Pinned := { name := "ytcmjlfhnibjofaa", sum := "8a9db6ccb577af40eec6ce3b656df50a2a8ee841dfc803e4fc7578da59108b82", checked := Try.checked }
namespace Rows
def none {H : Type} : Left H := { results := [], args := [] }

/-- 'swathtop.TopCommonTurn': WHATEVER THE INPUT: true; the input reads as it did. -/
def topCommonTurnSpec : ChangeSpec := { name := "topCommonTurn", fn := fun _ => fun
  | [d1, d2, d3] => { results := [.lit (.bool true)], args := [d1, d2, d3] }
  | _ => none }
def topCommonTurnRow : OpenClaim := { program := "ytcmjlfhnibjofaa", sum := "8a9db6ccb577af40eec6ce3b656df50a2a8ee841dfc803e4fc7578da59108b82", func := "swath/swathtop.TopCommonTurn", spec := "topCommonTurn", inPlace := ["math.Float64bits", "math.Float64frombits", "math.archTrunc"], unfollowed := true, recurses := true, apart := false }
def TopCommonTurnSaid : Prop := topCommonTurnRow.holds Try.pinned (OpenSpec.ofChange topCommonTurnSpec)

/-- ITS FALSE NEIGHBOUR: 'it returns false'. Refute it at one input. -/
def topCommonTurnWrong : ChangeSpec := { name := "topCommonTurn", fn := fun _ => fun
  | [d1, d2, d3] => { results := [.lit (.bool false)], args := [d1, d2, d3] }
  | _ => none }
def TopCommonTurnWrongFalsely : Prop := topCommonTurnRow.holds Try.pinned (OpenSpec.ofChange topCommonTurnWrong)

/-- 'swathtop.TopWholeTurns': WHATEVER THE INPUT: true; the input reads as it did. -/
def topWholeTurnsSpec : ChangeSpec := { name := "topWholeTurns", fn := fun _ => fun
  | [d] => { results := [.lit (.bool true)], args := [d] }
  | _ => none }
def topWholeTurnsRow : OpenClaim := { program := "ytcmjlfhnibjofaa", sum := "8a9db6ccb577af40eec6ce3b656df50a2a8ee841dfc803e4fc7578da59108b82", func := "swath/swathtop.TopWholeTurns", spec := "topWholeTurns", unfollowed := true, recurses := true, apart := false }
def TopWholeTurnsSaid : Prop := topWholeTurnsRow.holds Try.pinned (OpenSpec.ofChange topWholeTurnsSpec)

/-- ITS FALSE NEIGHBOUR: 'it returns false'. Refute it at one input. -/
def topWholeTurnsWrong : ChangeSpec := { name := "topWholeTurns", fn := fun _ => fun
  | [d] => { results := [.lit (.bool false)], args := [d] }
  | _ => none }
def TopWholeTurnsWrongFalsely : Prop := topWholeTurnsRow.holds Try.pinned (OpenSpec.ofChange topWholeTurnsWrong)

/-- 'swathtop.TopDopplerByLooks': WHATEVER THE INPUT: true; the input reads as it did. -/
def topDopplerByLooksSpec : ChangeSpec := { name := "topDopplerByLooks", fn := fun _ => fun
  | [d] => { results := [.lit (.bool true)], args := [d] }
  | _ => none }
def topDopplerByLooksRow : OpenClaim := { program := "ytcmjlfhnibjofaa", sum := "8a9db6ccb577af40eec6ce3b656df50a2a8ee841dfc803e4fc7578da59108b82", func := "swath/swathtop.TopDopplerByLooks", spec := "topDopplerByLooks", inPlace := ["math.Float64bits", "math.Float64frombits", "math.archTrunc"], unfollowed := true, recurses := true, apart := false }
def TopDopplerByLooksSaid : Prop := topDopplerByLooksRow.holds Try.pinned (OpenSpec.ofChange topDopplerByLooksSpec)

/-- ITS FALSE NEIGHBOUR: 'it returns false'. Refute it at one input. -/
def topDopplerByLooksWrong : ChangeSpec := { name := "topDopplerByLooks", fn := fun _ => fun
  | [d] => { results := [.lit (.bool false)], args := [d] }
  | _ => none }
def TopDopplerByLooksWrongFalsely : Prop := topDopplerByLooksRow.holds Try.pinned (OpenSpec.ofChange topDopplerByLooksWrong)

/-- 'swathtop.TopTurnedScene': WHATEVER THE INPUT: true; the input reads as it did. -/
def topTurnedSceneSpec : ChangeSpec := { name := "topTurnedScene", fn := fun _ => fun
  | [d1, d2, d3] => { results := [.lit (.bool true)], args := [d1, d2, d3] }
  | _ => none }
def topTurnedSceneRow : OpenClaim := { program := "ytcmjlfhnibjofaa", sum := "8a9db6ccb577af40eec6ce3b656df50a2a8ee841dfc803e4fc7578da59108b82", func := "swath/swathtop.TopTurnedScene", spec := "topTurnedScene", inPlace := ["math.Float64bits", "math.Float64frombits", "math.archTrunc", "math.Float32bits"], unfollowed := true, recurses := true, apart := false }
def TopTurnedSceneSaid : Prop := topTurnedSceneRow.holds Try.pinned (OpenSpec.ofChange topTurnedSceneSpec)

/-- ITS FALSE NEIGHBOUR: 'it returns false'. Refute it at one input. -/
def topTurnedSceneWrong : ChangeSpec := { name := "topTurnedScene", fn := fun _ => fun
  | [d1, d2, d3] => { results := [.lit (.bool false)], args := [d1, d2, d3] }
  | _ => none }
def TopTurnedSceneWrongFalsely : Prop := topTurnedSceneRow.holds Try.pinned (OpenSpec.ofChange topTurnedSceneWrong)

/- THE SECOND FORM. 'bulk': how many values and letters a reading holds, each counted each time it is reached (what is shared counts as often as it is met; a slice's spare places count too). A statement '..UptoSaid' is the law's where the arguments, and the package variables that the reading takes, are together of bulk at most 1048576: NARROWER than '..Said'. Prove '..Said' where nothing that the law and all that it calls make is longer than what came in: it says more and counts as full. Else prove '..UptoSaid'. A law counts once. -/
mutual
def uptoBulk {H : Type} : DataW H → Nat
  | .lit (.string bytes) => bytes.length + 1
  | .lit _ => 1
  | .nil => 1
  | .ptr d => uptoBulk d + 1
  | .slice elems spare => uptoBulkAll elems + uptoBulkAll spare + 1
  | .agg parts => uptoBulkAll parts + 1
  | .iface _ d => uptoBulk d + 1
  | .map entries => uptoBulkEntries entries + 1
  | .held _ => 1
def uptoBulkAll {H : Type} : List (DataW H) → Nat
  | [] => 0
  | d :: r => uptoBulk d + uptoBulkAll r
def uptoBulkEntries {H : Type} : List (Lit × DataW H) → Nat
  | [] => 0
  | x :: r => uptoBulkEntry x + uptoBulkEntries r
def uptoBulkEntry {H : Type} : Lit × DataW H → Nat
  | (.string bytes, d) => bytes.length + uptoBulk d + 1
  | (_, d) => uptoBulk d + 1
 end
def uptoSmall : (H : Type) → List (DataW H) → Bool := fun _ ds => decide (uptoBulkAll ds ≤ 1048576)
def OpenSpec.upto (s : _root_.Go.ChangeSpec) : _root_.Go.OpenSpec := { _root_.Go.OpenSpec.ofChange s with cond := some uptoSmall }

/-- 'swathtop.TopCommonTurn', WHERE WHAT IT READS IS OF BULK AT MOST 1048576: true; the input reads as it did. -/
def topCommonTurnUptoRow : OpenClaim := { program := "ytcmjlfhnibjofaa", sum := "8a9db6ccb577af40eec6ce3b656df50a2a8ee841dfc803e4fc7578da59108b82", func := "swath/swathtop.TopCommonTurn", spec := "topCommonTurn", inPlace := ["math.Float64bits", "math.Float64frombits", "math.archTrunc"], unfollowed := true, recurses := true, apart := false, narrowed := true }
def TopCommonTurnUptoSaid : Prop := topCommonTurnUptoRow.holds Try.pinned (OpenSpec.upto topCommonTurnSpec)

/-- 'swathtop.TopWholeTurns', WHERE WHAT IT READS IS OF BULK AT MOST 1048576: true; the input reads as it did. -/
def topWholeTurnsUptoRow : OpenClaim := { program := "ytcmjlfhnibjofaa", sum := "8a9db6ccb577af40eec6ce3b656df50a2a8ee841dfc803e4fc7578da59108b82", func := "swath/swathtop.TopWholeTurns", spec := "topWholeTurns", unfollowed := true, recurses := true, apart := false, narrowed := true }
def TopWholeTurnsUptoSaid : Prop := topWholeTurnsUptoRow.holds Try.pinned (OpenSpec.upto topWholeTurnsSpec)

/-- 'swathtop.TopDopplerByLooks', WHERE WHAT IT READS IS OF BULK AT MOST 1048576: true; the input reads as it did. -/
def topDopplerByLooksUptoRow : OpenClaim := { program := "ytcmjlfhnibjofaa", sum := "8a9db6ccb577af40eec6ce3b656df50a2a8ee841dfc803e4fc7578da59108b82", func := "swath/swathtop.TopDopplerByLooks", spec := "topDopplerByLooks", inPlace := ["math.Float64bits", "math.Float64frombits", "math.archTrunc"], unfollowed := true, recurses := true, apart := false, narrowed := true }
def TopDopplerByLooksUptoSaid : Prop := topDopplerByLooksUptoRow.holds Try.pinned (OpenSpec.upto topDopplerByLooksSpec)

/-- 'swathtop.TopTurnedScene', WHERE WHAT IT READS IS OF BULK AT MOST 1048576: true; the input reads as it did. -/
def topTurnedSceneUptoRow : OpenClaim := { program := "ytcmjlfhnibjofaa", sum := "8a9db6ccb577af40eec6ce3b656df50a2a8ee841dfc803e4fc7578da59108b82", func := "swath/swathtop.TopTurnedScene", spec := "topTurnedScene", inPlace := ["math.Float64bits", "math.Float64frombits", "math.archTrunc", "math.Float32bits"], unfollowed := true, recurses := true, apart := false, narrowed := true }
def TopTurnedSceneUptoSaid : Prop := topTurnedSceneUptoRow.holds Try.pinned (OpenSpec.upto topTurnedSceneSpec)

end Rows
end Go.Proofs.Ytcmjlfhnibjofaa
