/- Plain functions of chapter 9: tracks and pixels. No program in sight. -/
namespace Go.Proofs.Ythnfepfbkmafaaa
set_option linter.unusedVariables false
structure Trk where
  sx : Int
  sy : Int
  sz : Int
  step : Int
  lines : Int
  near : Int
  bin : Int
  bins : Int
  east : Bool

/-- A right track, as bounds. -/
structure Trk.Ok (t : Trk) : Prop where
  sx1 : -100000000 ≤ t.sx
  sx2 : t.sx ≤ 100000000
  sy1 : -100000000 ≤ t.sy
  sy2 : t.sy ≤ 100000000
  sz1 : -100000000 ≤ t.sz
  sz2 : t.sz ≤ 100000000
  st0 : t.step ≠ 0
  st1 : -1000 ≤ t.step
  st2 : t.step ≤ 1000
  li1 : 1 ≤ t.lines
  li2 : t.lines ≤ 10000
  ne1 : 0 ≤ t.near
  ne2 : t.near ≤ 100000000
  bi1 : 1 ≤ t.bin
  bi2 : t.bin ≤ 1000
  bs1 : 1 ≤ t.bins
  bs2 : t.bins ≤ 100000

def inR (lo hi n : Int) : Bool := decide (lo ≤ n) && decide (n ≤ hi)
def offP (t : Trk) (x : Int) : Int := if t.east then x - t.sx else t.sx - x
def depthP (t : Trk) (z : Int) : Int := t.sz - z
def placeB (x y z : Int) : Bool := inR (-100000000) 100000000 x && (inR (-100000000) 100000000 y && inR (-100000000) 100000000 z)
def checkPlaceP (x y z : Int) : Int := if placeB x y z then 0 else 2
/-- The error of a track. -/
def checkTrackP (t : Trk) : Int :=
  if placeB t.sx t.sy t.sz then
    if t.step = 0 then 11
    else if inR (-1000) 1000 t.step && (inR 1 10000 t.lines && (inR 0 100000000 t.near && (inR 1 1000 t.bin && inR 1 100000 t.bins))) then 0 else 2
  else 2
/-- The first error of two. -/
def first2 (a b : Int) : Int := if a = 0 then b else a
def floorP (n b : Int) : Int := if b < 0 then (-n) / (-b) else n / b

theorem inR_iff {lo hi n : Int} : inR lo hi n = true ↔ lo ≤ n ∧ n ≤ hi := by simp [inR]
theorem placeB_iff {x y z : Int} : placeB x y z = true ↔ (-100000000 ≤ x ∧ x ≤ 100000000) ∧ (-100000000 ≤ y ∧ y ≤ 100000000) ∧ (-100000000 ≤ z ∧ z ≤ 100000000) := by
  simp [placeB, inR_iff]
theorem checkTrackP_ok {t : Trk} (h : checkTrackP t = 0) : t.Ok := by
  unfold checkTrackP at h
  split at h
  · rename_i hp
    split at h
    · omega
    · split at h
      · rename_i hs hb
        simp only [Bool.and_eq_true, inR_iff] at hb
        rw [placeB_iff] at hp
        constructor <;> omega
      · omega
  · omega

/-- Go's rounding down: the quotient towards 0, less 1 where something below 0 is left. -/
theorem floor_of_tdiv (n b : Int) (hb : 1 ≤ b) : (if n.tmod b < 0 then n.tdiv b - 1 else n.tdiv b) = n / b := by
  have h1 := Int.tmod_add_mul_tdiv n b
  have h2 := Int.emod_add_mul_ediv n b
  have h3 := Int.emod_nonneg n (show b ≠ 0 by omega)
  have h4 := Int.emod_lt_of_pos n (show 0 < b by omega)
  rw [Int.tdiv_eq_ediv, Int.tmod_eq_emod]
  have hs : b.sign = 1 := Int.sign_eq_one_of_pos (by omega)
  have hn : (b.natAbs : Int) = b := Int.natAbs_of_nonneg (by omega)
  rw [hs]
  by_cases h : 0 ≤ n ∨ b ∣ n
  · simp only [if_pos h]
    rw [if_neg (by omega)]; omega
  · simp only [if_neg h]
    have : n % b ≠ 0 := fun e => h (Or.inr (Int.dvd_of_emod_eq_zero e))
    rw [if_pos (by omega)]; omega
end Go.Proofs.Ythnfepfbkmafaaa
