/- Plain functions of chapter 9: lines, slants, pixels, boxes. No program in sight. -/
import Derived.Test.YthnfepfbkmafaaaP2
namespace Go.Proofs.Ythnfepfbkmafaaa
set_option linter.unusedVariables false
/-- A pixel with heights. -/
structure Pix where
  line : Int
  bin : Int
  lo : Int
  hi : Int
/-- Two ranges, and an error. -/
structure BoxE where
  x1 : Int
  x2 : Int
  y1 : Int
  y2 : Int
  err : Int
def seenP (t : Trk) (x y z : Int) : Int := first2 (checkTrackP t) (checkPlaceP x y z)
def lineOfP (t : Trk) (x y z : Int) : Int × Int :=
  if seenP t x y z = 0 then (if inR 0 (t.lines - 1) (lineP t y) then (lineP t y, 0) else (0, 12)) else (0, seenP t x y z)
def slantOfP (t : Trk) (x y z : Int) : Int × Int × Int :=
  if seenP t x y z = 0 then (rootP (squareP t x z), rootUpP (squareP t x z), 0) else (0, 0, seenP t x y z)
def pixelOfP (t : Trk) (x y z : Int) : Int × Int × Int :=
  if seenP t x y z = 0 then
    if offP t x ≤ 0 then (0, 0, 15) else if depthP t z < 1 then (0, 0, 26)
    else if inR 0 (t.lines - 1) (lineP t y) && inR 0 (t.bins - 1) (binP t (rootP (squareP t x z))) then (lineP t y, binP t (rootP (squareP t x z)), 0) else (0, 0, 12)
  else (0, 0, seenP t x y z)
def heightsB (lo hi : Int) : Bool := inR (-100000) 100000 lo && inR (-100000) 100000 hi
def checkPixelP (t : Trk) (q : Pix) : Int :=
  if inR 0 (t.lines - 1) q.line && (inR 0 (t.bins - 1) q.bin && heightsB q.lo q.hi) then (if q.hi < q.lo then 9 else if t.sz ≤ q.hi then 26 else 0) else 2
def rowsP (t : Trk) (line : Int) : Int × Int :=
  if t.step < 0 then (t.sy + (line + 1) * t.step + 1, t.sy + line * t.step) else (t.sy + line * t.step, t.sy + (line + 1) * t.step - 1)
def columnsP (t : Trk) (lo hi : Int) : Int × Int := if t.east then (t.sx + lo, t.sx + hi) else (t.sx - hi, t.sx - lo)
def leastP (t : Trk) (q : Pix) : Int := (t.near + t.bin * q.bin) * (t.near + t.bin * q.bin) - depthP t q.lo * depthP t q.lo
def mostP (t : Trk) (q : Pix) : Int := (t.near + t.bin * q.bin + t.bin) * (t.near + t.bin * q.bin + t.bin) - 1 - depthP t q.hi * depthP t q.hi
def boxOfP (t : Trk) (q : Pix) : BoxE :=
  if checkTrackP t = 0 then
    if checkPixelP t q = 0 then
      if mostP t q < 0 then ⟨0, 0, 0, 0, 12⟩
      else if rootP (mostP t q) < rootUpP (max 1 (leastP t q)) then ⟨0, 0, 0, 0, 12⟩
      else ⟨(columnsP t (rootUpP (max 1 (leastP t q))) (rootP (mostP t q))).1, (columnsP t (rootUpP (max 1 (leastP t q))) (rootP (mostP t q))).2, (rowsP t q.line).1, (rowsP t q.line).2, 0⟩
    else ⟨0, 0, 0, 0, checkPixelP t q⟩
  else ⟨0, 0, 0, 0, checkTrackP t⟩

theorem seenP_ok {t : Trk} {x y z : Int} (h : seenP t x y z = 0) : t.Ok ∧ placeB x y z = true := by
  unfold seenP first2 at h
  split at h
  · rename_i h1
    refine ⟨checkTrackP_ok h1, ?_⟩
    unfold checkPlaceP at h
    split at h
    · assumption
    · omega
  · contradiction
/-- A right pixel, as bounds. -/
structure Pix.Ok (t : Trk) (q : Pix) : Prop where
  l1 : 0 ≤ q.line
  l2 : q.line ≤ t.lines - 1
  b1 : 0 ≤ q.bin
  b2 : q.bin ≤ t.bins - 1
  lo1 : -100000 ≤ q.lo
  lo2 : q.lo ≤ 100000
  hi1 : -100000 ≤ q.hi
  hi2 : q.hi ≤ 100000
  ord : q.lo ≤ q.hi
  top : q.hi < t.sz
theorem checkPixelP_ok {t : Trk} {q : Pix} (h : checkPixelP t q = 0) : q.Ok t := by
  unfold checkPixelP at h
  split at h
  · rename_i hb
    simp only [heightsB, Bool.and_eq_true, inR_iff] at hb
    split at h
    · omega
    · split at h
      · omega
      · constructor <;> omega
  · omega
theorem mul_bd {a b A B : Int} (a0 : 0 ≤ a) (a1 : a ≤ A) (b0 : 0 ≤ b) (b1 : b ≤ B) : 0 ≤ a * b ∧ a * b ≤ A * B :=
  ⟨Int.mul_nonneg a0 b0, Int.mul_le_mul a1 b1 b0 (by omega)⟩
theorem rootUpP_bd (n : Int) (h0 : 0 ≤ n) (h1 : n < 4611686018427387904) : 0 ≤ rootUpP n ∧ rootUpP n ≤ 2147483648 := by
  have a := rootP_spec n h0 h1
  have b := rootP_le n h0 h1
  unfold rootUpP
  split <;> omega
/-- The bounds that a walk of BoxOf wants. -/
theorem box_bd {t : Trk} {q : Pix} (o : t.Ok) (p : q.Ok t) :
    0 ≤ t.bin * q.bin ∧ t.bin * q.bin ≤ 100000000 ∧ 0 ≤ (t.near + t.bin * q.bin) * (t.near + t.bin * q.bin) ∧ (t.near + t.bin * q.bin) * (t.near + t.bin * q.bin) ≤ 40000000000000000 ∧
    0 ≤ (t.near + t.bin * q.bin + t.bin) * (t.near + t.bin * q.bin + t.bin) ∧ (t.near + t.bin * q.bin + t.bin) * (t.near + t.bin * q.bin + t.bin) ≤ 40000400001000000 ∧
    0 ≤ depthP t q.lo * depthP t q.lo ∧ depthP t q.lo * depthP t q.lo ≤ 10020010000000000 ∧ 0 ≤ depthP t q.hi * depthP t q.hi ∧ depthP t q.hi * depthP t q.hi ≤ 10020010000000000 := by
  obtain ⟨-, -, -, -, h_sz1, h_sz2, -, -, -, -, -, h_ne1, h_ne2, h_bi1, h_bi2, h_bs1, h_bs2⟩ := o
  obtain ⟨-, -, b1, b2, lo1, lo2, hi1, hi2, _, top⟩ := p
  have m := mul_bd (a := t.bin) (b := q.bin) (A := 1000) (B := 100000) (by omega) h_bi2 b1 (by omega)
  have s := sq_bd (t.near + t.bin * q.bin) 200000000 (by omega) (by omega)
  have s2 := sq_bd (t.near + t.bin * q.bin + t.bin) 200001000 (by omega) (by omega)
  have d1 := sq_bd (depthP t q.lo) 100100000 (by unfold depthP; omega) (by unfold depthP; omega)
  have d2 := sq_bd (depthP t q.hi) 100100000 (by unfold depthP; omega) (by unfold depthP; omega)
  omega
theorem rows_bd {t : Trk} {n : Int} (o : t.Ok) (h0 : 0 ≤ n) (h1 : n ≤ 10000) : -10000000 ≤ n * t.step ∧ n * t.step ≤ 10000000 := by
  obtain ⟨-, -, -, -, -, -, -, h1', h2', -, -, -, -, -, -, -, -⟩ := o
  rcases Int.le_total 0 t.step with h | h
  · have := mul_bd h0 h1 h h2'; omega
  · have := mul_bd h0 h1 (show 0 ≤ - t.step by omega) (show - t.step ≤ 1000 by omega)
    rw [Int.mul_neg] at this; omega
end Go.Proofs.Ythnfepfbkmafaaa
