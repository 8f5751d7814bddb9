/- Heights of a box: plain, and the program's HeightsIn. -/
import Derived.Test.YthnfepfbkmafaaaS4
import Derived.Test.YthnfepfbkmafaaaZT
import Derived.Deep.CutRange
import Derived.Deep.RegionHeld3
namespace Go.Proofs.Ythnfepfbkmafaaa
set_option linter.unusedVariables false
open Go.RowKit
/-- The height of a cell; the heights of the first cells of a row, of the first rows, from some on. -/
def hAt (r : Rel) (row col : Int) : Int := intB (bitAt r.ds (idxP r row col))
def rngRow (r : Rel) (row l : Int) (s : Int × Int) : Nat → Int × Int
  | 0 => s
  | m + 1 => (min (rngRow r row l s m).1 (hAt r row (l + m)), max (rngRow r row l s m).2 (hAt r row (l + m)))
def rngGrid (r : Rel) (bt l : Int) (nc : Nat) : Nat → Int × Int
  | 0 => (hAt r bt l, hAt r bt l)
  | n + 1 => rngRow r (bt + n) l (rngGrid r bt l nc n) nc
def nrowP (r : Rel) (q : Bx) : Nat := (rowP r q.y2 - rowP r q.y1 + 1).toNat
def ncolP (r : Rel) (q : Bx) : Nat := (colP r q.x2 - colP r q.x1 + 1).toNat
def gridP (r : Rel) (q : Bx) : Int × Int := rngGrid r (rowP r q.y1) (colP r q.x1) (ncolP r q) (nrowP r q)
def inGridB (r : Rel) (q : Bx) : Bool := hasCellB r (rowP r q.y1) (colP r q.x1) && hasCellB r (rowP r q.y2) (colP r q.x2)
/-- What HeightsIn returns: lo, hi, error. -/
def rangeP (r : Rel) (q : Bx) : Int × Int × Int :=
  if first2 (relErrP feB r) (boxErrP q) = 0 then (if inGridB r q then ((gridP r q).1, (gridP r q).2, 0) else (0, 0, 12)) else (0, 0, first2 (relErrP feB r) (boxErrP q))
theorem rngRow_in {r : Rel} {row l : Int} {s : Int × Int} : ∀ {m : Nat}, (rngRow r row l s m).1 ≤ s.1 ∧ s.2 ≤ (rngRow r row l s m).2 ∧ ∀ j : Nat, j < m → (rngRow r row l s m).1 ≤ hAt r row (l + j) ∧ hAt r row (l + j) ≤ (rngRow r row l s m).2
  | 0 => ⟨Int.le_refl _, Int.le_refl _, fun j hj => by omega⟩
  | m + 1 => by
    obtain ⟨h1, h2, h3⟩ := @rngRow_in r row l s m
    unfold rngRow
    refine ⟨by omega, by omega, fun j hj => ?_⟩
    by_cases e : j = m
    · subst e; omega
    · have := h3 j (by omega); omega
theorem rngGrid_in {r : Rel} {bt l : Int} {nc : Nat} : ∀ {n : Nat}, ∀ i j : Nat, i < n → j < nc → (rngGrid r bt l nc n).1 ≤ hAt r (bt + i) (l + j) ∧ hAt r (bt + i) (l + j) ≤ (rngGrid r bt l nc n).2
  | 0, i, j, hi, hj => by omega
  | n + 1, i, j, hi, hj => by
    obtain ⟨h1, h2, h3⟩ := @rngRow_in r (bt + n) l (rngGrid r bt l nc n) nc
    unfold rngGrid
    by_cases e : i = n
    · subst e; exact h3 j hj
    · have := @rngGrid_in r bt l nc n i j (by omega) hj; omega
end Go.Proofs.Ythnfepfbkmafaaa
