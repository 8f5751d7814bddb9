/- Polygons: the reference's BoxInside. -/
import Derived.Test.YtokpdmlmlkkekaaX5
import Derived.Test.YtokpdmlmlkkekaaZX
import Derived.Test.YtokpdmlmlkkekaaZT
namespace Go.Proofs.Ytokpdmlmlkkekaa
set_option linter.unusedVariables false
open Go.RowKit
/-- The polygon with all coordinates twice as great. -/
def dblOf (ps : List Plc) : List Plc := ps.map fun p => ⟨2 * p.x, 2 * p.y, 0⟩
theorem dbl_len (ps : List Plc) : (dblOf ps).length = ps.length := by unfold dblOf; simp
theorem dbl_at {ps : List Plc} {k : Nat} (hk : k < ps.length) : plcAt (dblOf ps) k = ⟨2 * (plcAt ps k).x, 2 * (plcAt ps k).y, 0⟩ := by
  unfold dblOf plcAt
  rw [List.getElem?_map, List.getElem?_eq_getElem hk]
  rfl
theorem dbl_side {ps : List Plc} {k : Nat} (hk : k < ps.length) : sideAt (dblOf ps) 1 k = sideAt ps 2 k := by
  unfold sideAt
  rw [dbl_len, dbl_at hk, dbl_at (next_lt hk)]
  simp only [Int.one_mul]
theorem par_same {f g : Nat → Sd} {x y : Int} : ∀ n, (∀ k, k < n → f k = g k) → parB f x y n = parB g x y n
  | 0, _ => rfl
  | n + 1, h => by rw [parB, parB, h n (by omega), par_same n (fun k hk => h k (by omega))]
theorem ins_same {f g : Nat → Sd} {x y : Int} {n : Nat} (h : ∀ k, k < n → f k = g k) : insB f n x y = insB g n x y := by
  unfold insB
  rw [par_same n h]
  have : (∃ k, k < n ∧ hasP (f k) x y = true) ↔ ∃ k, k < n ∧ hasP (g k) x y = true :=
    ⟨fun ⟨k, hk, hh⟩ => ⟨k, hk, by rw [← h k hk]; exact hh⟩, fun ⟨k, hk, hh⟩ => ⟨k, hk, by rw [h k hk]; exact hh⟩⟩
  by_cases hp : ∃ k, k < n ∧ hasP (f k) x y = true
  · rw [if_pos hp, if_pos (this.1 hp)]
  · rw [if_neg hp, if_neg (fun hh => hp (this.2 hh))]
/-- A side, in doubled coordinates, and the region of a box. -/
def passAt (ps : List Plc) (b : Bx) (k : Nat) : Bool := passP (sideAt ps 2 k) (2 * b.x1 - 1) (2 * b.y1 - 1) (2 * b.x2 + 1) (2 * b.y2 + 1)
/-- What BoxInside answers, with the place at which it asks. -/
noncomputable def boxInP (ps : List Plc) (b : Bx) (x y : Int) : Int :=
  open Classical in if ∃ k, k < ps.length ∧ passAt ps b k = true then 1 else if insB (sideAt ps 2) ps.length x y = true then 2 else 0
theorem boxIn_may {ps : List Plc} {b : Bx} {x y : Int} {k : Nat} (hk : k < ps.length) (h : passAt ps b k = true) : boxInP ps b x y = 1 := by
  unfold boxInP; rw [if_pos ⟨k, hk, h⟩]
theorem boxIn_not {ps : List Plc} {b : Bx} {x y : Int} (h : ∀ k, k < ps.length → passAt ps b k = false) : boxInP ps b x y = if insB (sideAt ps 2) ps.length x y = true then 2 else 0 := by
  unfold boxInP
  rw [if_neg]
  rintro ⟨k, hk, hh⟩
  rw [h k hk] at hh
  cases hh
/-- Whichever place of the region is asked for: the same answer. -/
theorem boxIn_same {ps : List Plc} {b : Bx} (hp : checkPolygonP ps = 0) {x y u v : Int} (h1 : In4 (2 * b.x1 - 1) (2 * b.y1 - 1) (2 * b.x2 + 1) (2 * b.y2 + 1) x y) (h2 : In4 (2 * b.x1 - 1) (2 * b.y1 - 1) (2 * b.x2 + 1) (2 * b.y2 + 1) u v) :
    boxInP ps b x y = boxInP ps b u v ∧ ((∀ k, k < ps.length → passAt ps b k = false) → insB (sideAt ps 2) ps.length x y = insB (sideAt ps 2) ps.length u v) := by
  obtain ⟨hn, -, hc, -⟩ := checkPolygonP_ok hp
  have key : (∀ k, k < ps.length → passAt ps b k = false) → insB (sideAt ps 2) ps.length x y = insB (sideAt ps 2) ps.length u v := by
    intro h
    obtain ⟨m, hm⟩ : ∃ m, ps.length = m + 1 := ⟨ps.length - 1, by omega⟩
    have hoff : ∀ k, k < m + 1 → Off (sideAt ps 2 k) (2 * b.x1 - 1) (2 * b.y1 - 1) (2 * b.x2 + 1) (2 * b.y2 + 1) := by
      intro k hk
      refine off_of_pass ?_ (h k (by omega))
      have hx : nextN ps.length k ≠ k := by unfold nextN; split <;> omega
      have := corner_ne hc (show k < ps.length by omega) (next_lt (show k < ps.length by omega)) (fun e => hx e.symm)
      unfold sideAt
      dsimp only
      omega
    have R : Ring (sideAt ps 2) m (2 * b.x1 - 1) (2 * b.y1 - 1) (2 * b.x2 + 1) (2 * b.y2 + 1) := by
      refine ⟨fun k hk => ?_, ?_, hoff⟩
      · have : nextN ps.length k = k + 1 := by unfold nextN; rw [if_pos (by omega)]
        unfold sideAt
        rw [this]
        exact ⟨rfl, rfl⟩
      · have : nextN ps.length m = 0 := by unfold nextN; rw [if_neg (by omega)]
        unfold sideAt
        rw [this]
        exact ⟨rfl, rfl⟩
    rw [insB_par (fun k hk => off_has (hoff k (by omega)) h1), insB_par (fun k hk => off_has (hoff k (by omega)) h2), hm]
    exact R.same h1 h2
  refine ⟨?_, key⟩
  by_cases h : ∃ k, k < ps.length ∧ passAt ps b k = true
  · obtain ⟨k, hk, hh⟩ := h
    rw [boxIn_may hk hh, boxIn_may hk hh]
  · have h' : ∀ k, k < ps.length → passAt ps b k = false := fun k hk => by
      rw [Bool.eq_false_iff]
      exact fun hh => h ⟨k, hk, hh⟩
    rw [boxIn_not h', boxIn_not h', key h']
def dblUpto (ps : List Plc) : Nat → List Value
  | 0 => []
  | k + 1 => dblUpto ps k ++ [.int .i64 (2 * (plcAt ps k).x), .int .i64 (2 * (plcAt ps k).y), .int .i64 0]
theorem dblUpto_len (ps : List Plc) : ∀ k, (dblUpto ps k).length = k * 3
  | 0 => rfl
  | k + 1 => by unfold dblUpto; rw [List.length_append, dblUpto_len ps k]; simp; omega
theorem dblUpto_at (ps : List Plc) (k : Nat) (j : Nat) (hj : j < 3) : ∀ n, k < n → (dblUpto ps n)[k * 3 + j]? = [Value.int .i64 (2 * (plcAt ps k).x), Value.int .i64 (2 * (plcAt ps k).y), Value.int .i64 0][j]?
  | 0, h => by omega
  | n + 1, h => by
    unfold dblUpto
    have hl := dblUpto_len ps n
    by_cases e : k = n
    · subst e
      rw [List.getElem?_append_right (by omega), hl, show k * 3 + j - k * 3 = j by omega]
    · rw [List.getElem?_append_left (by omega)]
      exact dblUpto_at ps k j hj n (by omega)
theorem infoPlc : (Try.prog.info? 23).map (fun i => (i.zero, i.size, i.bytes)) = some (some (.agg #[.int .i64 0, .int .i64 0, .int .i64 0]), 3, 24) := by kernel_rfl
end Go.Proofs.Ytokpdmlmlkkekaa
