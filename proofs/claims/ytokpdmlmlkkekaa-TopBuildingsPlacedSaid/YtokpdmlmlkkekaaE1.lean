/- For the laws over chapter 9's layers, plain: a place alone is surely in its pixel; a cell with a pixel is among those placed. -/
import Derived.Test.YtokpdmlmlkkekaaZQ
import Derived.Test.YtokpdmlmlkkekaaZC
namespace Go.Proofs.Ytokpdmlmlkkekaa
set_option linter.unusedVariables false
open Go.RowKit
/-- A box of its place alone is surely in the pixel. -/
theorem own_yes {t : Trk} {x y z a b : Int} (s : Seen t x y z a b) : inPixelP t ⟨a, b, z, z⟩ ⟨x, x, y, y⟩ = 2 := by
  have ot := checkTrackP_ok s.trk
  have h1 : offHiP t x x = offP t x := by unfold offHiP; unfold offP; cases t.east <;> simp
  have h2 : offLoP t x x = offP t x := by unfold offLoP; unfold offP; cases t.east <;> simp
  have h3 : max 1 (offP t x) = offP t x := by have := s.off; omega
  have g1 := (@le_bin t (rootP (squareP t x z)) b ot.bi1).1 (by have := s.bin; omega)
  have g2 := (@bin_le t (rootP (squareP t x z)) b ot.bi1).1 (by have := s.bin; omega)
  have e1 : s1P t ⟨a, b, z, z⟩ ⟨x, x, y, y⟩ = rootP (squareP t x z) := by unfold s1P squareP; dsimp only; rw [h2, h3]
  have e2 : s2P t ⟨a, b, z, z⟩ ⟨x, x, y, y⟩ = rootP (squareP t x z) := by unfold s2P squareP; dsimp only; rw [h1]
  have l1 : l1P t ⟨x, x, y, y⟩ = a := by unfold l1P; dsimp only; rw [s.line]; omega
  have l2 : l2P t ⟨x, x, y, y⟩ = a := by unfold l2P; dsimp only; rw [s.line]; omega
  unfold inPixelP
  rw [e1, e2, l1, l2]
  dsimp only
  rw [h1, h2, if_neg (by have := s.off; omega), if_neg, if_pos]
  · simp only [Bool.and_eq_true, decide_eq_true_eq]
    exact ⟨s.off, trivial, g1, g2⟩
  · simp only [Bool.or_eq_true, Bool.not_eq_true', decide_eq_true_eq]
    rintro (h | h | h)
    · have : inR a a a = true := inR_iff.2 ⟨by omega, by omega⟩
      rw [this] at h
      cases h
    · omega
    · omega
theorem plRow_size (t : Trk) (r : Rel) (fi : Nat → Int) (u v : Int) (row : Nat) : ∀ k, (plRow t r fi u v row k).length = 2 * cnRow t r fi u v row k
  | 0 => rfl
  | k + 1 => by
    rw [plRow, cnRow, List.length_append, plRow_size t r fi u v row k]
    split <;> simp <;> omega
theorem plGrid_size (t : Trk) (r : Rel) (fi : Nat → Int) (u v : Int) : ∀ n, (plGrid t r fi u v n).length = 2 * cnGrid t r fi u v n
  | 0 => rfl
  | n + 1 => by
    rw [plGrid, cnGrid, List.length_append, plGrid_size t r fi u v n, plRow_size]
    omega
/-- A pair in a list of pairs. -/
def PairIn (l : List Value) (c : Nat) (i k : Int) : Prop := ∃ n, n < c ∧ l[n * 2]? = some (.int .i64 i) ∧ l[n * 2 + 1]? = some (.int .i64 k)
theorem PairIn.left {l m : List Value} {c d : Nat} {i k : Int} (hl : l.length = 2 * c) (h : PairIn l c i k) : PairIn (l ++ m) (c + d) i k := by
  obtain ⟨n, hn, h1, h2⟩ := h
  exact ⟨n, by omega, by rw [List.getElem?_append_left (by omega)]; exact h1, by rw [List.getElem?_append_left (by omega)]; exact h2⟩
theorem PairIn.right {l m : List Value} {c d : Nat} {i k : Int} (hl : l.length = 2 * c) (h : PairIn m d i k) : PairIn (l ++ m) (c + d) i k := by
  obtain ⟨n, hn, h1, h2⟩ := h
  refine ⟨c + n, by omega, ?_, ?_⟩
  · rw [List.getElem?_append_right (by omega), show (c + n) * 2 - l.length = n * 2 by omega]; exact h1
  · rw [List.getElem?_append_right (by omega), show (c + n) * 2 + 1 - l.length = n * 2 + 1 by omega]; exact h2
theorem plRow_mem {t : Trk} {r : Rel} {fi : Nat → Int} {u v : Int} {row col : Nat} (h : hitB t r fi u v row col = true) : ∀ k, col < k → PairIn (plRow t r fi u v row k) (cnRow t r fi u v row k) row col
  | 0, hk => by omega
  | k + 1, hk => by
    rw [plRow, cnRow]
    have hs := plRow_size t r fi u v row k
    by_cases e : col = k
    · subst e
      rw [if_pos h, if_pos h]
      exact PairIn.right hs ⟨0, by omega, rfl, rfl⟩
    · exact PairIn.left hs (plRow_mem h k (by omega))
/-- A cell with this pixel is among the cells that Placed returns. -/
theorem plGrid_mem {t : Trk} {r : Rel} {fi : Nat → Int} {u v : Int} {row col : Nat} (h : hitB t r fi u v row col = true) (hc : col < r.cols.toNat) : ∀ n, row < n → PairIn (plGrid t r fi u v n) (cnGrid t r fi u v n) row col
  | 0, hn => by omega
  | n + 1, hn => by
    rw [plGrid, cnGrid]
    have hs := plGrid_size t r fi u v n
    by_cases e : row = n
    · subst e
      exact PairIn.right hs (plRow_mem h _ hc)
    · exact PairIn.left hs (plGrid_mem h hc n (by omega))
end Go.Proofs.Ytokpdmlmlkkekaa
