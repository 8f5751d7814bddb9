/- The law TopBuildingsPlaced returns true. -/
import Derived.Test.YtokpdmlmlkkekaaE6
import Derived.Test.YtokpdmlmlkkekaaE3
import Derived.Test.YtokpdmlmlkkekaaX11
import Derived.Test.YtokpdmlmlkkekaaT5
import Derived.Test.YtokpdmlmlkkekaaY9
import Derived.Test.YtokpdmlmlkkekaaB1
import Derived.Test.YtokpdmlmlkkekaaZM
import Derived.Test.YtokpdmlmlkkekaaS5
import Derived.Deep.CutRange
import Derived.Deep.RegionHeld3
namespace Go.Proofs.Ytokpdmlmlkkekaa
set_option linter.unusedVariables false
open Go.RowKit
theorem wp_worldT {P : Program} {c : Code} {Q : Exit → Act → World → Prop} {a : Act} {w : World} (F : World → Prop) (hf : F w) (h : ∀ W, F W → Code.wp P c Q a W) : Code.wp P c Q a w := h w hf
theorem pixelErr_t (t : Trk) (a b lo hi : Int) (w : World) {e0 : Int} (he : checkPixelP t ⟨a, b, lo, hi⟩ = e0) (l1 : 1 ≤ t.lines) (l2 : t.lines ≤ 10000) (n1 : 1 ≤ t.bins) (n2 : t.bins ≤ 100000) :
    Calls Try.prog 21 #[.agg #[.int .i64 t.sx, .int .i64 t.sy, .int .i64 t.sz, .int .i64 t.step, .int .i64 t.lines, .int .i64 t.near, .int .i64 t.bin, .int .i64 t.bins, .bool t.east], .agg #[.int .i64 a, .int .i64 b, .int .i64 lo, .int .i64 hi]] w fun e w' => e = .returned (.int .i64 e0) ∧ Below w.heap.size w w' := rPixelErr t ⟨a, b, lo, hi⟩ w he l1 l2 n1 n2
theorem boxOf_t (t : Trk) (a b lo hi : Int) (w : World) {x1 x2 y1 y2 e0 : Int} (h : boxOfP t ⟨a, b, lo, hi⟩ = ⟨x1, x2, y1, y2, e0⟩) :
    Calls Try.prog 19 #[.agg #[.int .i64 t.sx, .int .i64 t.sy, .int .i64 t.sz, .int .i64 t.step, .int .i64 t.lines, .int .i64 t.near, .int .i64 t.bin, .int .i64 t.bins, .bool t.east], .agg #[.int .i64 a, .int .i64 b, .int .i64 lo, .int .i64 hi]] w fun e w' => e = .returned (.tuple #[.agg #[.int .i64 x1, .int .i64 x2, .int .i64 y1, .int .i64 y2], .int .i64 e0]) ∧ Below w.heap.size w w' := boxOf_e t ⟨a, b, lo, hi⟩ w h
theorem boxErr_t (x1 x2 y1 y2 : Int) (w : World) {e0 : Int} (he : boxErrP ⟨x1, x2, y1, y2⟩ = e0) :
    Calls Try.prog 63 #[.agg #[.int .i64 x1, .int .i64 x2, .int .i64 y1, .int .i64 y2]] w fun e w' => e = .returned (.int .i64 e0) ∧ Below w.heap.size w w' := rBoxErr ⟨x1, x2, y1, y2⟩ w he
theorem checkPolygon_t (ps : List Plc) (a : Option Addr) (cap : Nat) (w : World) (hl : ps.length ≤ 1000000000) (hs : PlSrc w a ps) {e0 : Int} (he : checkPolygonP ps = e0) :
    Calls Try.prog 52 #[.slice a ps.length cap] w fun e w' => e = .returned (.int .i64 e0) ∧ Below w.heap.size w w' := by
  by_cases h : 3 ≤ ps.length ∧ ps.length ≤ 20
  · obtain ⟨b, off, rfl, h6, h7⟩ := hs (by omega)
    exact rCheckPolygon_any ps b off cap w h.1 h.2 h6 h7 he
  · exact rCheckPolygon_short ps cap a w (by omega) hl he
theorem boxInside_t (ps : List Plc) (v : Value) (x1 x2 y1 y2 : Int) (w : World) (hv : PlacesV w v ps) {r : Int} {e0 : Int} (hr : boxInVal ps ⟨x1, x2, y1, y2⟩ = r) (he : boxInErr ps ⟨x1, x2, y1, y2⟩ = e0) :
    Calls Try.prog 70 #[v, .agg #[.int .i64 x1, .int .i64 x2, .int .i64 y1, .int .i64 y2]] w fun e w' => e = .returned (.tuple #[.int .i64 r, .int .i64 e0]) ∧ Below w.heap.size w w' := BoxInside_any ps v ⟨x1, x2, y1, y2⟩ w hv hr he
theorem heights_t (r : Rel) (b off cap : Nat) (w : World) {lo hi : Int} (hlo : (hiLo r r.ds.length).1 = lo) (hhi : (hiLo r r.ds.length).2 = hi) (hl : r.ds.length ≤ 1000000000) (hp : 0 < r.ds.length) (hf : FlInts intB r.ds) (hbw : b < w.heap.size) (hc : FloatsAt w b off r.ds) :
    Calls Try.prog 74 #[.agg #[.int .i64 r.x, .int .i64 r.y, .int .i64 r.cell, .int .i64 r.rows, .int .i64 r.cols, .slice (some ⟨b, off, none⟩) r.ds.length cap]] w fun e w' => e = .returned (.agg #[.int .i64 lo, .int .i64 hi]) ∧ Below w.heap.size w w' := by
  subst hlo hhi; exact heights_any r b off cap w hl hp hf hbw hc
/-- Has the tile been found? -/
def foundB (hE l bo : Int) (ny : Nat) (X Y : Int) (j : Nat) : Bool := (hE != 0) || hitT l bo ny X Y j
theorem foundB_zero (hE l bo : Int) (ny : Nat) (X Y : Int) : foundB hE l bo ny X Y 0 = (hE != 0) := by unfold foundB hitT; simp
theorem foundB_succ (hE l bo : Int) (ny : Nat) (X Y : Int) (j : Nat) : foundB hE l bo ny X Y (j + 1) = (foundB hE l bo ny X Y j || (txP l ny j == X && tyP bo ny j == Y)) := by
  unfold foundB; rw [hitT_succ, Bool.or_assoc]; rfl
/-- The tiles of a right box, or too many. -/
structure TileFacts (x1 x2 y1 y2 : Int) (NT : Nat) (l bo : Int) (ny : Nat) (hE : Int) : Prop where
  few : NT ≤ 400
  err : hE = 0 ∨ hE = 8
  hit : ∀ x y, x1 ≤ x → x ≤ x2 → y1 ≤ y → y ≤ y2 → foundB hE l bo ny (x / 100) (y / 100) NT = true
  run : ∀ w, Calls Try.prog 62 #[.agg #[.int .i64 x1, .int .i64 x2, .int .i64 y1, .int .i64 y2], .int .i64 100] w fun e w' => ∃ ga c, e = .returned (.tuple #[.slice ga NT c, .int .i64 hE]) ∧ (0 < NT → ∃ g, ga = some ⟨g, 0, none⟩ ∧ g < w'.heap.size ∧ TilesAt w' g l bo ny NT) ∧ Below w.heap.size w w'
theorem tiles_t {x1 x2 y1 y2 : Int} (hb : boxErrP ⟨x1, x2, y1, y2⟩ = 0) : ∃ NT l bo ny hE, TileFacts x1 x2 y1 y2 NT l bo ny hE := by
  obtain ⟨xa, xb, xc, xd, ya, yb, yc, yd, xo, yo⟩ := boxErrP_ok hb
  simp only at xa xb xc xd ya yb yc yd xo yo
  have m1 := div_mono xo (show (1 : Int) ≤ 100 by decide)
  have m2 := div_mono yo (show (1 : Int) ≤ 100 by decide)
  by_cases he : tilesErrP ⟨x1, x2, y1, y2⟩ 100 = 0
  · obtain ⟨nx, hnx⟩ : ∃ nx : Nat, (nx : Int) = nxP ⟨x1, x2, y1, y2⟩ 100 := ⟨(nxP ⟨x1, x2, y1, y2⟩ 100).toNat, by unfold nxP; simp only; omega⟩
    obtain ⟨ny, hny⟩ : ∃ ny : Nat, (ny : Int) = nyP ⟨x1, x2, y1, y2⟩ 100 := ⟨(nyP ⟨x1, x2, y1, y2⟩ 100).toNat, by unfold nyP; simp only; omega⟩
    have hnx' := hnx
    have hny' := hny
    unfold nxP at hnx'
    unfold nyP at hny'
    simp only at hnx' hny'
    have hpos : 0 < nx * ny := Nat.mul_pos (by omega) (by omega)
    refine ⟨nx * ny, x1 / 100, y1 / 100, ny, 0, ?_, Or.inl rfl, fun x y h1 h2 h3 h4 => ?_, fun w => ?_⟩
    · unfold tilesErrP at he
      rw [if_pos (by decide), ← hnx, ← hny, ← Int.natCast_mul] at he
      split at he
      · exact absurd he (by decide)
      · omega
    · have := Int.ediv_le_ediv (c := 100) (by decide) h1
      have := Int.ediv_le_ediv (c := 100) (by decide) h2
      have := Int.ediv_le_ediv (c := 100) (by decide) h3
      have := Int.ediv_le_ediv (c := 100) (by decide) h4
      unfold foundB
      rw [hitT_all (by omega) (by omega) (by omega) (by omega)]
      rfl
    · refine (tiles_sl ⟨x1, x2, y1, y2⟩ 100 w hb he nx ny hnx hny _ rfl hpos _ _ rfl rfl).mono ?_
      rintro e w' ⟨g, c, rfl, h1, h2, h3⟩
      exact ⟨_, c, rfl, fun _ => ⟨g, rfl, h1, h2⟩, h3⟩
  · refine ⟨0, 0, 0, 0, 8, by omega, Or.inr rfl, fun x y h1 h2 h3 h4 => rfl, fun w => ?_⟩
    have h8 : tilesErrP ⟨x1, x2, y1, y2⟩ 100 = 8 := by
      unfold tilesErrP at he ⊢
      rw [if_pos (by decide)] at he ⊢
      split at he
      · rw [if_pos (by assumption)]
      · exact absurd rfl he
    refine (tiles_bad2 ⟨x1, x2, y1, y2⟩ 100 w hb h8 (by decide)).mono ?_
    rintro e w' ⟨rfl, h3⟩
    exact ⟨none, 0, rfl, fun h => absurd h (by omega), h3⟩
/-- An append of a list of places to a new row, in a region that draws its order. -/
theorem step_places {ops : Array Oper} {o : Oper} {av : Act} {w W0 : World} {K : Act → World → Prop} {Q : Exit → Act → World → Prop} {E : Prop} {g : Nat}
    (hg : o.guard = none) (s x : Operand) (hop : o.op = Op.call { callee := Callee.builtin Builtin.append, args := #[s, x], argTypes := #[85, 85] })
    (hw : w = (W0.alloc (.cells #[] 23)).drew) (hs : av.eval s = .slice (some ⟨g, 0, none⟩) 0 0) (hgw : g = W0.heap.size) (ps : List Plc) (pb poff pcap : Nat) (hx : av.eval x = .slice (some ⟨pb, poff, none⟩) ps.length pcap)
    (hl : ps.length ≤ 1000000000) (hwf : Wf2 ps) (hpb : pb < W0.heap.size) (hps : PlacesO W0 pb poff ps)
    (hK : ∀ v' p, PlacesV (later W0 p) v' ps → K (av.put o.dst v') (later W0 p)) :
    if Region.wanted o (yielded ops av.tmps) = true then Oper.wp Try.prog o av w K Q else E := by
  obtain ⟨i0, hi, hz0, hz1, hz2⟩ := info_parts info23
  have hw' : Region.wanted o (yielded ops av.tmps) = true := by simp [Region.wanted, hg]
  rw [if_pos hw']
  subst hw hgw
  have hb0 : Below W0.heap.size W0 (W0.alloc (.cells #[] 23)).drew := ((Below.refl _ _).alloc (Nat.le_refl _) _).drew
  refine wp_append_own _ s x 85 hop W0.heap.size 23 i0 (.agg #[.int .i64 0, .int .i64 0, .int .i64 0]) 3 24 Try.underlying85 hi hz0 hz1 hz2 rfl (by decide) _ 0 [] hs (ownsRow_new3 _ _ _ _ rfl (Nat.le_refl _)).drew
    ⟨pb, poff, none⟩ ps.length pcap (plcVals ps) hx (by rw [plcVals_len]) (plc_cell (hps.below hpb hb0)) plcVals_one (by unfold maxLen; omega) (by omega) (by simp) ?_
  intro v' w1 hown hgrow _
  have hown2 : w1.ownsRow W0.heap.size 23 3 v' ps.length (plcVals ps) := by simpa using hown
  have hpv := places_own hwf hl hown2
  have hb : Below W0.heap.size W0 w1 := hb0.grown hgrow (by simp) (fun g hg => by simp [Value.ownBlock] at hg; omega)
  obtain ⟨p, rfl⟩ := later_of_below hb
  exact hK v' p hpv
theorem inside_same {ps : List Plc} {x y z : Int} (hp : checkPolygonP ps = 0) (hpl : placeB x y z = true) : insideErrP ps x y z = 0 ∧ insideValP ps x y z = insideValP ps x y 0 := by
  have h1 : insideErrP ps x y z = 0 := by unfold insideErrP first2 checkPlaceP; rw [hp, if_pos rfl, hpl]; rfl
  have h2 : insideErrP ps x y 0 = 0 := by
    obtain ⟨a, b, -⟩ := placeB_iff.1 hpl
    have hpl0 : placeB x y 0 = true := placeB_iff.2 ⟨a, b, by omega, by omega⟩
    unfold insideErrP first2 checkPlaceP; rw [hp, if_pos rfl, hpl0]; rfl
  refine ⟨h1, ?_⟩
  unfold insideValP
  rw [if_pos h1, if_pos h2]
theorem poly_len {ps : List Plc} (h : checkPolygonP ps = 0) : 3 ≤ ps.length := by
  unfold checkPolygonP at h
  split at h
  · exact absurd h (by decide)
  · omega
end Go.Proofs.Ytokpdmlmlkkekaa
