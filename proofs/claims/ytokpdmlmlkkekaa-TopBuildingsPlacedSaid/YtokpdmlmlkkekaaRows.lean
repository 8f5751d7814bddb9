/-
  No cell of these rows narrows 'for every input' (looked for: loops, veiled, ifaces, maps, wideKeys, modest, calm, conditions, laid).
  DERIVED. THE GIVEN ROWS OF THIS SEAT. 15 by the template 'for every input the law returns true; each argument reads behind the call as it read before'; 0 by the template 'total and deterministic' (their statements: YtokpdmlmlkkekaaTotals.lean).
  GIVEN WITH THE SEED: the statements are not yours to turn. If you find one false, say at which input.
  Laid BY PROGRAM, IN A SANDBOX (cutbox-rows.mjs): the forced cells as the released guide's own fill.sh prints them over the translation 4b56bd44e604b45b… (all of the seat's roots in one cut). By AI agents, Wed Nov 11 2026. No macro, syntax, notation, axiom, sorry.
-/
import Derived.Test.YtokpdmlmlkkekaaChecked
import GoSem.Claim
import GoSem.ClaimJoined
import GoSem.ClaimMapViews
import Derived.JoinedTies
import Derived.KernelRfl
namespace Go.Proofs.Ytokpdmlmlkkekaa
/- THE CELL 'sum', in the pinned program and in every row, IS THE sha256 OF THE DUMP (.gsa) THAT YtokpdmlmlkkekaaProg.lean LOADS. Nothing in Lean hashes anything: it is a label: what it is worth is what the hold of that sum in a sandbox is worth. -/
noncomputable def Try.pinned : Pinned := { name := "ytokpdmlmlkkekaa", sum := "4b56bd44e604b45b48870fa4e13a554c760d77a02c0679113907d197c4dbb99f", checked := Try.checked }
namespace Rows
def none {H : Type} : Left H := { results := [], args := [] }

/-- 'swathlaw09.GroundBoxes': WHATEVER THE INPUT: true; the input reads as it did. -/
def groundBoxesSpec : ChangeSpec := { name := "groundBoxes", fn := fun _ => fun
  | [d1, d2] => { results := [.lit (.bool true)], args := [d1, d2] }
  | _ => none }
def groundBoxesRow : OpenClaim := { program := "ytokpdmlmlkkekaa", sum := "4b56bd44e604b45b48870fa4e13a554c760d77a02c0679113907d197c4dbb99f", func := "swath/swathlaw09.GroundBoxes", spec := "groundBoxes", inPlace := ["math.sqrt", "math.archTrunc", "math.Float64bits", "math.Float64frombits"], unfollowed := true, recurses := true, plainKeys := false, apart := false }
def GroundBoxesSaid : Prop := groundBoxesRow.holds Try.pinned (OpenSpec.ofChange groundBoxesSpec)

/-- ITS FALSE NEIGHBOUR: 'it returns false'. Refute it at one input. -/
def groundBoxesWrong : ChangeSpec := { name := "groundBoxes", fn := fun _ => fun
  | [d1, d2] => { results := [.lit (.bool false)], args := [d1, d2] }
  | _ => none }
def GroundBoxesWrongFalsely : Prop := groundBoxesRow.holds Try.pinned (OpenSpec.ofChange groundBoxesWrong)

/-- 'swathlaw09.GroundPixels': WHATEVER THE INPUT: true; the input reads as it did. -/
def groundPixelsSpec : ChangeSpec := { name := "groundPixels", fn := fun _ => fun
  | [d1, d2] => { results := [.lit (.bool true)], args := [d1, d2] }
  | _ => none }
def groundPixelsRow : OpenClaim := { program := "ytokpdmlmlkkekaa", sum := "4b56bd44e604b45b48870fa4e13a554c760d77a02c0679113907d197c4dbb99f", func := "swath/swathlaw09.GroundPixels", spec := "groundPixels", inPlace := ["math.sqrt", "math.archTrunc", "math.Float64bits", "math.Float64frombits"], unfollowed := true, recurses := true, plainKeys := false, apart := false }
def GroundPixelsSaid : Prop := groundPixelsRow.holds Try.pinned (OpenSpec.ofChange groundPixelsSpec)

/-- ITS FALSE NEIGHBOUR: 'it returns false'. Refute it at one input. -/
def groundPixelsWrong : ChangeSpec := { name := "groundPixels", fn := fun _ => fun
  | [d1, d2] => { results := [.lit (.bool false)], args := [d1, d2] }
  | _ => none }
def GroundPixelsWrongFalsely : Prop := groundPixelsRow.holds Try.pinned (OpenSpec.ofChange groundPixelsWrong)

/-- 'swathlaw09.GroundMasks': WHATEVER THE INPUT: true; the input reads as it did. -/
def groundMasksSpec : ChangeSpec := { name := "groundMasks", fn := fun _ => fun
  | [d1, d2, d3] => { results := [.lit (.bool true)], args := [d1, d2, d3] }
  | _ => none }
def groundMasksRow : OpenClaim := { program := "ytokpdmlmlkkekaa", sum := "4b56bd44e604b45b48870fa4e13a554c760d77a02c0679113907d197c4dbb99f", func := "swath/swathlaw09.GroundMasks", spec := "groundMasks", inPlace := ["math.sqrt", "math.archTrunc", "math.Float64bits", "math.Float64frombits"], unfollowed := true, recurses := true, plainKeys := false, apart := false }
def GroundMasksSaid : Prop := groundMasksRow.holds Try.pinned (OpenSpec.ofChange groundMasksSpec)

/-- ITS FALSE NEIGHBOUR: 'it returns false'. Refute it at one input. -/
def groundMasksWrong : ChangeSpec := { name := "groundMasks", fn := fun _ => fun
  | [d1, d2, d3] => { results := [.lit (.bool false)], args := [d1, d2, d3] }
  | _ => none }
def GroundMasksWrongFalsely : Prop := groundMasksRow.holds Try.pinned (OpenSpec.ofChange groundMasksWrong)

/-- 'swathlaw09.GroundShadows': WHATEVER THE INPUT: true; the input reads as it did. -/
def groundShadowsSpec : ChangeSpec := { name := "groundShadows", fn := fun _ => fun
  | [d1, d2, d3] => { results := [.lit (.bool true)], args := [d1, d2, d3] }
  | _ => none }
def groundShadowsRow : OpenClaim := { program := "ytokpdmlmlkkekaa", sum := "4b56bd44e604b45b48870fa4e13a554c760d77a02c0679113907d197c4dbb99f", func := "swath/swathlaw09.GroundShadows", spec := "groundShadows", inPlace := ["math.sqrt", "math.archTrunc", "math.Float64bits", "math.Float64frombits"], unfollowed := true, recurses := true, plainKeys := false, apart := false }
def GroundShadowsSaid : Prop := groundShadowsRow.holds Try.pinned (OpenSpec.ofChange groundShadowsSpec)

/-- ITS FALSE NEIGHBOUR: 'it returns false'. Refute it at one input. -/
def groundShadowsWrong : ChangeSpec := { name := "groundShadows", fn := fun _ => fun
  | [d1, d2, d3] => { results := [.lit (.bool false)], args := [d1, d2, d3] }
  | _ => none }
def GroundShadowsWrongFalsely : Prop := groundShadowsRow.holds Try.pinned (OpenSpec.ofChange groundShadowsWrong)

/-- 'swathlaw09.GroundReliefs': WHATEVER THE INPUT: true; the input reads as it did. -/
def groundReliefsSpec : ChangeSpec := { name := "groundReliefs", fn := fun _ => fun
  | [d1, d2] => { results := [.lit (.bool true)], args := [d1, d2] }
  | _ => none }
def groundReliefsRow : OpenClaim := { program := "ytokpdmlmlkkekaa", sum := "4b56bd44e604b45b48870fa4e13a554c760d77a02c0679113907d197c4dbb99f", func := "swath/swathlaw09.GroundReliefs", spec := "groundReliefs", inPlace := ["math.sqrt", "math.archTrunc", "math.Float64bits", "math.Float64frombits"], unfollowed := true, recurses := true, plainKeys := false, apart := false }
def GroundReliefsSaid : Prop := groundReliefsRow.holds Try.pinned (OpenSpec.ofChange groundReliefsSpec)

/-- ITS FALSE NEIGHBOUR: 'it returns false'. Refute it at one input. -/
def groundReliefsWrong : ChangeSpec := { name := "groundReliefs", fn := fun _ => fun
  | [d1, d2] => { results := [.lit (.bool false)], args := [d1, d2] }
  | _ => none }
def GroundReliefsWrongFalsely : Prop := groundReliefsRow.holds Try.pinned (OpenSpec.ofChange groundReliefsWrong)

/-- 'swathlaw09.GroundPolygons': WHATEVER THE INPUT: true; the input reads as it did. -/
def groundPolygonsSpec : ChangeSpec := { name := "groundPolygons", fn := fun _ => fun
  | [d1, d2] => { results := [.lit (.bool true)], args := [d1, d2] }
  | _ => none }
def groundPolygonsRow : OpenClaim := { program := "ytokpdmlmlkkekaa", sum := "4b56bd44e604b45b48870fa4e13a554c760d77a02c0679113907d197c4dbb99f", func := "swath/swathlaw09.GroundPolygons", spec := "groundPolygons", inPlace := ["math.sqrt", "math.archTrunc", "math.Float64bits", "math.Float64frombits"], unfollowed := true, recurses := true, plainKeys := false, apart := false }
def GroundPolygonsSaid : Prop := groundPolygonsRow.holds Try.pinned (OpenSpec.ofChange groundPolygonsSpec)

/-- ITS FALSE NEIGHBOUR: 'it returns false'. Refute it at one input. -/
def groundPolygonsWrong : ChangeSpec := { name := "groundPolygons", fn := fun _ => fun
  | [d1, d2] => { results := [.lit (.bool false)], args := [d1, d2] }
  | _ => none }
def GroundPolygonsWrongFalsely : Prop := groundPolygonsRow.holds Try.pinned (OpenSpec.ofChange groundPolygonsWrong)

/-- 'swathlaw09.GroundTurns': WHATEVER THE INPUT: true; the input reads as it did. -/
def groundTurnsSpec : ChangeSpec := { name := "groundTurns", fn := fun _ => fun
  | [d1, d2, d3] => { results := [.lit (.bool true)], args := [d1, d2, d3] }
  | _ => none }
def groundTurnsRow : OpenClaim := { program := "ytokpdmlmlkkekaa", sum := "4b56bd44e604b45b48870fa4e13a554c760d77a02c0679113907d197c4dbb99f", func := "swath/swathlaw09.GroundTurns", spec := "groundTurns", inPlace := ["math.sqrt", "math.archTrunc", "math.Float64bits", "math.Float64frombits"], unfollowed := true, recurses := true, plainKeys := false, apart := false }
def GroundTurnsSaid : Prop := groundTurnsRow.holds Try.pinned (OpenSpec.ofChange groundTurnsSpec)

/-- ITS FALSE NEIGHBOUR: 'it returns false'. Refute it at one input. -/
def groundTurnsWrong : ChangeSpec := { name := "groundTurns", fn := fun _ => fun
  | [d1, d2, d3] => { results := [.lit (.bool false)], args := [d1, d2, d3] }
  | _ => none }
def GroundTurnsWrongFalsely : Prop := groundTurnsRow.holds Try.pinned (OpenSpec.ofChange groundTurnsWrong)

/-- 'swathlaw09.GroundCounts': WHATEVER THE INPUT: true; the input reads as it did. -/
def groundCountsSpec : ChangeSpec := { name := "groundCounts", fn := fun _ => fun
  | [d1, d2, d3] => { results := [.lit (.bool true)], args := [d1, d2, d3] }
  | _ => none }
def groundCountsRow : OpenClaim := { program := "ytokpdmlmlkkekaa", sum := "4b56bd44e604b45b48870fa4e13a554c760d77a02c0679113907d197c4dbb99f", func := "swath/swathlaw09.GroundCounts", spec := "groundCounts", inPlace := ["math.sqrt", "math.archTrunc", "math.Float64bits", "math.Float64frombits"], unfollowed := true, recurses := true, plainKeys := false, apart := false }
def GroundCountsSaid : Prop := groundCountsRow.holds Try.pinned (OpenSpec.ofChange groundCountsSpec)

/-- ITS FALSE NEIGHBOUR: 'it returns false'. Refute it at one input. -/
def groundCountsWrong : ChangeSpec := { name := "groundCounts", fn := fun _ => fun
  | [d1, d2, d3] => { results := [.lit (.bool false)], args := [d1, d2, d3] }
  | _ => none }
def GroundCountsWrongFalsely : Prop := groundCountsRow.holds Try.pinned (OpenSpec.ofChange groundCountsWrong)

/-- 'swathlaw09.GroundTiles': WHATEVER THE INPUT: true; the input reads as it did. -/
def groundTilesSpec : ChangeSpec := { name := "groundTiles", fn := fun _ => fun
  | [d1, d2] => { results := [.lit (.bool true)], args := [d1, d2] }
  | _ => none }
def groundTilesRow : OpenClaim := { program := "ytokpdmlmlkkekaa", sum := "4b56bd44e604b45b48870fa4e13a554c760d77a02c0679113907d197c4dbb99f", func := "swath/swathlaw09.GroundTiles", spec := "groundTiles", inPlace := ["math.sqrt", "math.archTrunc", "math.Float64bits", "math.Float64frombits"], unfollowed := true, recurses := true, plainKeys := false, apart := false }
def GroundTilesSaid : Prop := groundTilesRow.holds Try.pinned (OpenSpec.ofChange groundTilesSpec)

/-- ITS FALSE NEIGHBOUR: 'it returns false'. Refute it at one input. -/
def groundTilesWrong : ChangeSpec := { name := "groundTiles", fn := fun _ => fun
  | [d1, d2] => { results := [.lit (.bool false)], args := [d1, d2] }
  | _ => none }
def GroundTilesWrongFalsely : Prop := groundTilesRow.holds Try.pinned (OpenSpec.ofChange groundTilesWrong)

/-- 'swathlaw09.GroundThereAndBack': WHATEVER THE INPUT: true; the input reads as it did. -/
def groundThereAndBackSpec : ChangeSpec := { name := "groundThereAndBack", fn := fun _ => fun
  | [d1, d2, d3] => { results := [.lit (.bool true)], args := [d1, d2, d3] }
  | _ => none }
def groundThereAndBackRow : OpenClaim := { program := "ytokpdmlmlkkekaa", sum := "4b56bd44e604b45b48870fa4e13a554c760d77a02c0679113907d197c4dbb99f", func := "swath/swathlaw09.GroundThereAndBack", spec := "groundThereAndBack", inPlace := ["math.sqrt", "math.archTrunc", "math.Float64bits", "math.Float64frombits"], unfollowed := true, recurses := true, plainKeys := false, apart := false }
def GroundThereAndBackSaid : Prop := groundThereAndBackRow.holds Try.pinned (OpenSpec.ofChange groundThereAndBackSpec)

/-- ITS FALSE NEIGHBOUR: 'it returns false'. Refute it at one input. -/
def groundThereAndBackWrong : ChangeSpec := { name := "groundThereAndBack", fn := fun _ => fun
  | [d1, d2, d3] => { results := [.lit (.bool false)], args := [d1, d2, d3] }
  | _ => none }
def GroundThereAndBackWrongFalsely : Prop := groundThereAndBackRow.holds Try.pinned (OpenSpec.ofChange groundThereAndBackWrong)

/-- 'swathlaw09.GroundInPixel': WHATEVER THE INPUT: true; the input reads as it did. -/
def groundInPixelSpec : ChangeSpec := { name := "groundInPixel", fn := fun _ => fun
  | [d1, d2, d3] => { results := [.lit (.bool true)], args := [d1, d2, d3] }
  | _ => none }
def groundInPixelRow : OpenClaim := { program := "ytokpdmlmlkkekaa", sum := "4b56bd44e604b45b48870fa4e13a554c760d77a02c0679113907d197c4dbb99f", func := "swath/swathlaw09.GroundInPixel", spec := "groundInPixel", inPlace := ["math.sqrt", "math.archTrunc", "math.Float64bits", "math.Float64frombits"], unfollowed := true, recurses := true, plainKeys := false, apart := false }
def GroundInPixelSaid : Prop := groundInPixelRow.holds Try.pinned (OpenSpec.ofChange groundInPixelSpec)

/-- ITS FALSE NEIGHBOUR: 'it returns false'. Refute it at one input. -/
def groundInPixelWrong : ChangeSpec := { name := "groundInPixel", fn := fun _ => fun
  | [d1, d2, d3] => { results := [.lit (.bool false)], args := [d1, d2, d3] }
  | _ => none }
def GroundInPixelWrongFalsely : Prop := groundInPixelRow.holds Try.pinned (OpenSpec.ofChange groundInPixelWrong)

/-- 'swathlaw09.GroundHeights': WHATEVER THE INPUT: true; the input reads as it did. -/
def groundHeightsSpec : ChangeSpec := { name := "groundHeights", fn := fun _ => fun
  | [d1, d2] => { results := [.lit (.bool true)], args := [d1, d2] }
  | _ => none }
def groundHeightsRow : OpenClaim := { program := "ytokpdmlmlkkekaa", sum := "4b56bd44e604b45b48870fa4e13a554c760d77a02c0679113907d197c4dbb99f", func := "swath/swathlaw09.GroundHeights", spec := "groundHeights", inPlace := ["math.sqrt", "math.archTrunc", "math.Float64bits", "math.Float64frombits"], unfollowed := true, recurses := true, plainKeys := false, apart := false }
def GroundHeightsSaid : Prop := groundHeightsRow.holds Try.pinned (OpenSpec.ofChange groundHeightsSpec)

/-- ITS FALSE NEIGHBOUR: 'it returns false'. Refute it at one input. -/
def groundHeightsWrong : ChangeSpec := { name := "groundHeights", fn := fun _ => fun
  | [d1, d2] => { results := [.lit (.bool false)], args := [d1, d2] }
  | _ => none }
def GroundHeightsWrongFalsely : Prop := groundHeightsRow.holds Try.pinned (OpenSpec.ofChange groundHeightsWrong)

/-- 'swathlaw09.GroundInside': WHATEVER THE INPUT: true; the input reads as it did. -/
def groundInsideSpec : ChangeSpec := { name := "groundInside", fn := fun _ => fun
  | [d1, d2] => { results := [.lit (.bool true)], args := [d1, d2] }
  | _ => none }
def groundInsideRow : OpenClaim := { program := "ytokpdmlmlkkekaa", sum := "4b56bd44e604b45b48870fa4e13a554c760d77a02c0679113907d197c4dbb99f", func := "swath/swathlaw09.GroundInside", spec := "groundInside", inPlace := ["math.sqrt", "math.archTrunc", "math.Float64bits", "math.Float64frombits"], unfollowed := true, recurses := true, plainKeys := false, apart := false }
def GroundInsideSaid : Prop := groundInsideRow.holds Try.pinned (OpenSpec.ofChange groundInsideSpec)

/-- ITS FALSE NEIGHBOUR: 'it returns false'. Refute it at one input. -/
def groundInsideWrong : ChangeSpec := { name := "groundInside", fn := fun _ => fun
  | [d1, d2] => { results := [.lit (.bool false)], args := [d1, d2] }
  | _ => none }
def GroundInsideWrongFalsely : Prop := groundInsideRow.holds Try.pinned (OpenSpec.ofChange groundInsideWrong)

/-- 'swathtop.TopGroundAndBack': WHATEVER THE INPUT: true; the input reads as it did. -/
def topGroundAndBackSpec : ChangeSpec := { name := "topGroundAndBack", fn := fun _ => fun
  | [d1, d2] => { results := [.lit (.bool true)], args := [d1, d2] }
  | _ => none }
def topGroundAndBackRow : OpenClaim := { program := "ytokpdmlmlkkekaa", sum := "4b56bd44e604b45b48870fa4e13a554c760d77a02c0679113907d197c4dbb99f", func := "swath/swathtop.TopGroundAndBack", spec := "topGroundAndBack", inPlace := ["math.sqrt", "math.archTrunc", "math.Float64bits", "math.Float64frombits"], unfollowed := true, recurses := true, plainKeys := false, apart := false }
def TopGroundAndBackSaid : Prop := topGroundAndBackRow.holds Try.pinned (OpenSpec.ofChange topGroundAndBackSpec)

/-- ITS FALSE NEIGHBOUR: 'it returns false'. Refute it at one input. -/
def topGroundAndBackWrong : ChangeSpec := { name := "topGroundAndBack", fn := fun _ => fun
  | [d1, d2] => { results := [.lit (.bool false)], args := [d1, d2] }
  | _ => none }
def TopGroundAndBackWrongFalsely : Prop := topGroundAndBackRow.holds Try.pinned (OpenSpec.ofChange topGroundAndBackWrong)

/-- 'swathtop.TopBuildingsPlaced': WHATEVER THE INPUT: true; the input reads as it did. -/
def topBuildingsPlacedSpec : ChangeSpec := { name := "topBuildingsPlaced", fn := fun _ => fun
  | [d1, d2, d3] => { results := [.lit (.bool true)], args := [d1, d2, d3] }
  | _ => none }
def topBuildingsPlacedRow : OpenClaim := { program := "ytokpdmlmlkkekaa", sum := "4b56bd44e604b45b48870fa4e13a554c760d77a02c0679113907d197c4dbb99f", func := "swath/swathtop.TopBuildingsPlaced", spec := "topBuildingsPlaced", inPlace := ["math.sqrt", "math.archTrunc", "math.Float64bits", "math.Float64frombits"], unfollowed := true, recurses := true, plainKeys := false, apart := false }
def TopBuildingsPlacedSaid : Prop := topBuildingsPlacedRow.holds Try.pinned (OpenSpec.ofChange topBuildingsPlacedSpec)

/-- ITS FALSE NEIGHBOUR: 'it returns false'. Refute it at one input. -/
def topBuildingsPlacedWrong : ChangeSpec := { name := "topBuildingsPlaced", fn := fun _ => fun
  | [d1, d2, d3] => { results := [.lit (.bool false)], args := [d1, d2, d3] }
  | _ => none }
def TopBuildingsPlacedWrongFalsely : Prop := topBuildingsPlacedRow.holds Try.pinned (OpenSpec.ofChange topBuildingsPlacedWrong)

/- THE SECOND FORM. 'bulk': how many values and letters a reading holds, each counted each time it is reached (what is shared counts as often as it is met; a slice's spare places count too). A statement '..UptoSaid' is the law's where the arguments, and the package variables that the reading takes, are together of bulk at most 1048576: NARROWER than '..Said'. Prove '..Said' where nothing that the law and all that it calls make is longer than what came in: it says more and counts as full. Else prove '..UptoSaid'. A law counts once. -/
mutual
def uptoBulk {H : Type} : DataW H → Nat
  | .lit (.string bytes) => bytes.length + 1
  | .lit _ => 1
  | .nil => 1
  | .ptr d => uptoBulk d + 1
  | .slice elems spare => uptoBulkAll elems + uptoBulkAll spare + 1
  | .agg parts => uptoBulkAll parts + 1
  | .iface _ d => uptoBulk d + 1
  | .map entries => uptoBulkEntries entries + 1
  | .held _ => 1
def uptoBulkAll {H : Type} : List (DataW H) → Nat
  | [] => 0
  | d :: r => uptoBulk d + uptoBulkAll r
def uptoBulkEntries {H : Type} : List (Lit × DataW H) → Nat
  | [] => 0
  | x :: r => uptoBulkEntry x + uptoBulkEntries r
def uptoBulkEntry {H : Type} : Lit × DataW H → Nat
  | (.string bytes, d) => bytes.length + uptoBulk d + 1
  | (_, d) => uptoBulk d + 1
 end
def uptoSmall : (H : Type) → List (DataW H) → Bool := fun _ ds => decide (uptoBulkAll ds ≤ 1048576)
def OpenSpec.upto (s : _root_.Go.ChangeSpec) : _root_.Go.OpenSpec := { _root_.Go.OpenSpec.ofChange s with cond := some uptoSmall }

/-- 'swathlaw09.GroundBoxes', WHERE WHAT IT READS IS OF BULK AT MOST 1048576: true; the input reads as it did. -/
def groundBoxesUptoRow : OpenClaim := { program := "ytokpdmlmlkkekaa", sum := "4b56bd44e604b45b48870fa4e13a554c760d77a02c0679113907d197c4dbb99f", func := "swath/swathlaw09.GroundBoxes", spec := "groundBoxes", inPlace := ["math.sqrt", "math.archTrunc", "math.Float64bits", "math.Float64frombits"], unfollowed := true, recurses := true, plainKeys := false, apart := false, narrowed := true }
def GroundBoxesUptoSaid : Prop := groundBoxesUptoRow.holds Try.pinned (OpenSpec.upto groundBoxesSpec)

/-- 'swathlaw09.GroundPixels', WHERE WHAT IT READS IS OF BULK AT MOST 1048576: true; the input reads as it did. -/
def groundPixelsUptoRow : OpenClaim := { program := "ytokpdmlmlkkekaa", sum := "4b56bd44e604b45b48870fa4e13a554c760d77a02c0679113907d197c4dbb99f", func := "swath/swathlaw09.GroundPixels", spec := "groundPixels", inPlace := ["math.sqrt", "math.archTrunc", "math.Float64bits", "math.Float64frombits"], unfollowed := true, recurses := true, plainKeys := false, apart := false, narrowed := true }
def GroundPixelsUptoSaid : Prop := groundPixelsUptoRow.holds Try.pinned (OpenSpec.upto groundPixelsSpec)

/-- 'swathlaw09.GroundMasks', WHERE WHAT IT READS IS OF BULK AT MOST 1048576: true; the input reads as it did. -/
def groundMasksUptoRow : OpenClaim := { program := "ytokpdmlmlkkekaa", sum := "4b56bd44e604b45b48870fa4e13a554c760d77a02c0679113907d197c4dbb99f", func := "swath/swathlaw09.GroundMasks", spec := "groundMasks", inPlace := ["math.sqrt", "math.archTrunc", "math.Float64bits", "math.Float64frombits"], unfollowed := true, recurses := true, plainKeys := false, apart := false, narrowed := true }
def GroundMasksUptoSaid : Prop := groundMasksUptoRow.holds Try.pinned (OpenSpec.upto groundMasksSpec)

/-- 'swathlaw09.GroundShadows', WHERE WHAT IT READS IS OF BULK AT MOST 1048576: true; the input reads as it did. -/
def groundShadowsUptoRow : OpenClaim := { program := "ytokpdmlmlkkekaa", sum := "4b56bd44e604b45b48870fa4e13a554c760d77a02c0679113907d197c4dbb99f", func := "swath/swathlaw09.GroundShadows", spec := "groundShadows", inPlace := ["math.sqrt", "math.archTrunc", "math.Float64bits", "math.Float64frombits"], unfollowed := true, recurses := true, plainKeys := false, apart := false, narrowed := true }
def GroundShadowsUptoSaid : Prop := groundShadowsUptoRow.holds Try.pinned (OpenSpec.upto groundShadowsSpec)

/-- 'swathlaw09.GroundReliefs', WHERE WHAT IT READS IS OF BULK AT MOST 1048576: true; the input reads as it did. -/
def groundReliefsUptoRow : OpenClaim := { program := "ytokpdmlmlkkekaa", sum := "4b56bd44e604b45b48870fa4e13a554c760d77a02c0679113907d197c4dbb99f", func := "swath/swathlaw09.GroundReliefs", spec := "groundReliefs", inPlace := ["math.sqrt", "math.archTrunc", "math.Float64bits", "math.Float64frombits"], unfollowed := true, recurses := true, plainKeys := false, apart := false, narrowed := true }
def GroundReliefsUptoSaid : Prop := groundReliefsUptoRow.holds Try.pinned (OpenSpec.upto groundReliefsSpec)

/-- 'swathlaw09.GroundPolygons', WHERE WHAT IT READS IS OF BULK AT MOST 1048576: true; the input reads as it did. -/
def groundPolygonsUptoRow : OpenClaim := { program := "ytokpdmlmlkkekaa", sum := "4b56bd44e604b45b48870fa4e13a554c760d77a02c0679113907d197c4dbb99f", func := "swath/swathlaw09.GroundPolygons", spec := "groundPolygons", inPlace := ["math.sqrt", "math.archTrunc", "math.Float64bits", "math.Float64frombits"], unfollowed := true, recurses := true, plainKeys := false, apart := false, narrowed := true }
def GroundPolygonsUptoSaid : Prop := groundPolygonsUptoRow.holds Try.pinned (OpenSpec.upto groundPolygonsSpec)

/-- 'swathlaw09.GroundTurns', WHERE WHAT IT READS IS OF BULK AT MOST 1048576: true; the input reads as it did. -/
def groundTurnsUptoRow : OpenClaim := { program := "ytokpdmlmlkkekaa", sum := "4b56bd44e604b45b48870fa4e13a554c760d77a02c0679113907d197c4dbb99f", func := "swath/swathlaw09.GroundTurns", spec := "groundTurns", inPlace := ["math.sqrt", "math.archTrunc", "math.Float64bits", "math.Float64frombits"], unfollowed := true, recurses := true, plainKeys := false, apart := false, narrowed := true }
def GroundTurnsUptoSaid : Prop := groundTurnsUptoRow.holds Try.pinned (OpenSpec.upto groundTurnsSpec)

/-- 'swathlaw09.GroundCounts', WHERE WHAT IT READS IS OF BULK AT MOST 1048576: true; the input reads as it did. -/
def groundCountsUptoRow : OpenClaim := { program := "ytokpdmlmlkkekaa", sum := "4b56bd44e604b45b48870fa4e13a554c760d77a02c0679113907d197c4dbb99f", func := "swath/swathlaw09.GroundCounts", spec := "groundCounts", inPlace := ["math.sqrt", "math.archTrunc", "math.Float64bits", "math.Float64frombits"], unfollowed := true, recurses := true, plainKeys := false, apart := false, narrowed := true }
def GroundCountsUptoSaid : Prop := groundCountsUptoRow.holds Try.pinned (OpenSpec.upto groundCountsSpec)

/-- 'swathlaw09.GroundTiles', WHERE WHAT IT READS IS OF BULK AT MOST 1048576: true; the input reads as it did. -/
def groundTilesUptoRow : OpenClaim := { program := "ytokpdmlmlkkekaa", sum := "4b56bd44e604b45b48870fa4e13a554c760d77a02c0679113907d197c4dbb99f", func := "swath/swathlaw09.GroundTiles", spec := "groundTiles", inPlace := ["math.sqrt", "math.archTrunc", "math.Float64bits", "math.Float64frombits"], unfollowed := true, recurses := true, plainKeys := false, apart := false, narrowed := true }
def GroundTilesUptoSaid : Prop := groundTilesUptoRow.holds Try.pinned (OpenSpec.upto groundTilesSpec)

/-- 'swathlaw09.GroundThereAndBack', WHERE WHAT IT READS IS OF BULK AT MOST 1048576: true; the input reads as it did. -/
def groundThereAndBackUptoRow : OpenClaim := { program := "ytokpdmlmlkkekaa", sum := "4b56bd44e604b45b48870fa4e13a554c760d77a02c0679113907d197c4dbb99f", func := "swath/swathlaw09.GroundThereAndBack", spec := "groundThereAndBack", inPlace := ["math.sqrt", "math.archTrunc", "math.Float64bits", "math.Float64frombits"], unfollowed := true, recurses := true, plainKeys := false, apart := false, narrowed := true }
def GroundThereAndBackUptoSaid : Prop := groundThereAndBackUptoRow.holds Try.pinned (OpenSpec.upto groundThereAndBackSpec)

/-- 'swathlaw09.GroundInPixel', WHERE WHAT IT READS IS OF BULK AT MOST 1048576: true; the input reads as it did. -/
def groundInPixelUptoRow : OpenClaim := { program := "ytokpdmlmlkkekaa", sum := "4b56bd44e604b45b48870fa4e13a554c760d77a02c0679113907d197c4dbb99f", func := "swath/swathlaw09.GroundInPixel", spec := "groundInPixel", inPlace := ["math.sqrt", "math.archTrunc", "math.Float64bits", "math.Float64frombits"], unfollowed := true, recurses := true, plainKeys := false, apart := false, narrowed := true }
def GroundInPixelUptoSaid : Prop := groundInPixelUptoRow.holds Try.pinned (OpenSpec.upto groundInPixelSpec)

/-- 'swathlaw09.GroundHeights', WHERE WHAT IT READS IS OF BULK AT MOST 1048576: true; the input reads as it did. -/
def groundHeightsUptoRow : OpenClaim := { program := "ytokpdmlmlkkekaa", sum := "4b56bd44e604b45b48870fa4e13a554c760d77a02c0679113907d197c4dbb99f", func := "swath/swathlaw09.GroundHeights", spec := "groundHeights", inPlace := ["math.sqrt", "math.archTrunc", "math.Float64bits", "math.Float64frombits"], unfollowed := true, recurses := true, plainKeys := false, apart := false, narrowed := true }
def GroundHeightsUptoSaid : Prop := groundHeightsUptoRow.holds Try.pinned (OpenSpec.upto groundHeightsSpec)

/-- 'swathlaw09.GroundInside', WHERE WHAT IT READS IS OF BULK AT MOST 1048576: true; the input reads as it did. -/
def groundInsideUptoRow : OpenClaim := { program := "ytokpdmlmlkkekaa", sum := "4b56bd44e604b45b48870fa4e13a554c760d77a02c0679113907d197c4dbb99f", func := "swath/swathlaw09.GroundInside", spec := "groundInside", inPlace := ["math.sqrt", "math.archTrunc", "math.Float64bits", "math.Float64frombits"], unfollowed := true, recurses := true, plainKeys := false, apart := false, narrowed := true }
def GroundInsideUptoSaid : Prop := groundInsideUptoRow.holds Try.pinned (OpenSpec.upto groundInsideSpec)

/-- 'swathtop.TopGroundAndBack', WHERE WHAT IT READS IS OF BULK AT MOST 1048576: true; the input reads as it did. -/
def topGroundAndBackUptoRow : OpenClaim := { program := "ytokpdmlmlkkekaa", sum := "4b56bd44e604b45b48870fa4e13a554c760d77a02c0679113907d197c4dbb99f", func := "swath/swathtop.TopGroundAndBack", spec := "topGroundAndBack", inPlace := ["math.sqrt", "math.archTrunc", "math.Float64bits", "math.Float64frombits"], unfollowed := true, recurses := true, plainKeys := false, apart := false, narrowed := true }
def TopGroundAndBackUptoSaid : Prop := topGroundAndBackUptoRow.holds Try.pinned (OpenSpec.upto topGroundAndBackSpec)

/-- 'swathtop.TopBuildingsPlaced', WHERE WHAT IT READS IS OF BULK AT MOST 1048576: true; the input reads as it did. -/
def topBuildingsPlacedUptoRow : OpenClaim := { program := "ytokpdmlmlkkekaa", sum := "4b56bd44e604b45b48870fa4e13a554c760d77a02c0679113907d197c4dbb99f", func := "swath/swathtop.TopBuildingsPlaced", spec := "topBuildingsPlaced", inPlace := ["math.sqrt", "math.archTrunc", "math.Float64bits", "math.Float64frombits"], unfollowed := true, recurses := true, plainKeys := false, apart := false, narrowed := true }
def TopBuildingsPlacedUptoSaid : Prop := topBuildingsPlacedUptoRow.holds Try.pinned (OpenSpec.upto topBuildingsPlacedSpec)

end Rows
end Go.Proofs.Ytokpdmlmlkkekaa
